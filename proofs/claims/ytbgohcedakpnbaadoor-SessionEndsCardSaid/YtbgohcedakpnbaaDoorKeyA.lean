/- keyed: over, Mac, Extract, Check. -/
import Derived.Test.YtbgohcedakpnbaaDoorKeyP
import Derived.Test.YtbgohcedakpnbaaDoorDigE
import Derived.Test.YtbgohcedakpnbaaDoorHex
import Derived.Lib.BufferWrite
import Derived.Test.YtbgohcedakpnbaaDoorBld
import Derived.Test.YtbgohcedakpnbaaDoorRowIn
set_option linter.unusedVariables false
namespace Go.Proofs.YtbgohcedakpnbaaDoor
open Go.RowKit
theorem u8_xor (a b : UInt8) : bits .xor .u8 ((a.toNat : Nat) : Int) ((b.toNat : Nat) : Int) = (((a ^^^ b).toNat : Nat) : Int) := by
  have ha := UInt8.toNat_lt a
  have hb := UInt8.toNat_lt b
  have hx : a.toNat ^^^ b.toNat < 2 ^ 8 := Nat.xor_lt_two_pow (by omega) (by omega)
  show IntKind.u8.wrap ((BitVec.ofInt 8 (a.toNat : Int) ^^^ BitVec.ofInt 8 (b.toNat : Int)).toNat : Int) = _
  rw [BitVec.toNat_xor, BitVec.ofInt_natCast, BitVec.ofInt_natCast, BitVec.toNat_ofNat, BitVec.toNat_ofNat, Nat.mod_eq_of_lt (by omega : a.toNat < 2 ^ 8), Nat.mod_eq_of_lt (by omega : b.toNat < 2 ^ 8), UInt8.toNat_xor]
  simp only [IntKind.wrap, IntKind.bits, IntKind.signed]
  simp
  omega
def overTo (p : UInt8) (l : List UInt8) (i : Nat) : List UInt8 := (l.take i).map (fun c => c ^^^ p) ++ l.drop i
theorem overTo_len (p : UInt8) (l : List UInt8) (i : Nat) : (overTo p l i).length = l.length := by simp [overTo]; omega
theorem overTo_get {p : UInt8} {l : List UInt8} {i : Nat} {c : UInt8} (h : l[i]? = some c) : (overTo p l i)[i]? = some c := by
  have hi := (List.getElem?_eq_some_iff.1 h).1
  unfold overTo
  rw [List.getElem?_append_right (by simp; omega), List.getElem?_drop]
  simp only [List.length_map, List.length_take]
  rw [show i + (i - min i l.length) = i by omega]; exact h
theorem overTo_set {p : UInt8} {l : List UInt8} {i : Nat} {c : UInt8} (h : l[i]? = some c) : (overTo p l i).set i (c ^^^ p) = overTo p l (i + 1) := by
  obtain ⟨hi, he⟩ := List.getElem?_eq_some_iff.1 h
  unfold overTo
  rw [List.set_append_right _ _ (by simp; omega), List.take_succ_eq_append_getElem hi, List.map_append, he, List.append_assoc]
  congr 1
  rw [List.length_map, List.length_take, show i - min i l.length = 0 by omega, List.drop_eq_getElem_cons hi, List.set_cons_zero]
  rfl
theorem overTo_all (p : UInt8) (l : List UInt8) : overTo p l l.length = l.map (fun c => c ^^^ p) := by simp [overTo]
theorem wpList_copy_known {P : Program} (w : World) {ops : Array Oper} {rest : List Oper} {o : Oper} {a : Act} {Q : Exit → Act → World → Prop} (hgd : o.guard = none) (d s : Operand) (t t' : TypeId)
    (ho : o.op = .call { callee := .builtin .copy, args := #[d, s], argTypes := #[t, t'] }) (v u : Value) (hd : a.eval d = v) (hs : a.eval s = u) {v' : Value} {w' : World}
    (hr : (Builtin.copy_ #[t, t'] o.type #[v, u]).run P w = .ok v' w') (h : wpList P ops Q rest (a.put o.dst v') w') : wpList P ops Q (o :: rest) a w :=
  wpList_plain hgd fun _ hK => by
    unfold Oper.wp execOp
    simp only [ho, resolve, invoke, builtin, Sem.run_bind, Sem.run_pure, Result.andThen_ok, List.map_toArray, List.map_cons, List.map_nil, hd, hs, hr]
    exact hK _ _ h
theorem make64 (w : World) : (Instr.makeSlice 54 (.int .i64 64) (.int .i64 64)).run Tryd.prog w = .ok (.slice (some ⟨w.heap.size, 0, none⟩) 64 64) (w.alloc (.cells (List.replicate 64 (Value.int .u8 0)).toArray 5)) :=
  run_mkrow (P := Tryd.prog) 54 5 (.int .u8 0) 1 Tryd.underlying54 byte_info rfl 64 (by omega) (by omega) w
set_option maxRecDepth 100000 in
set_option maxHeartbeats 400000 in
theorem over_any (p : UInt8) (k : ByteArray) (w : World) (hk : k.size ≤ 64) :
    Calls Tryd.prog 98 #[.int .u8 p.toNat, .string k] w fun e w' => e = .returned (.string (overB p k)) ∧ Below w.heap.size w w' := by
  obtain ⟨L, hL⟩ : ∃ L, k.data.toList ++ List.replicate (64 - k.data.toList.length) 0 = L := ⟨_, rfl⟩
  have hll : L.length = 64 := by rw [← hL]; have : k.data.toList.length = k.size := by simp
                                 simp; omega
  have hov : overB p k = ⟨(L.map (fun c => c ^^^ p)).toArray⟩ := by unfold overB overL; rw [hL]
  have hmk := make64 w
  have hks : k.data.toList.length = k.size := by simp
  obtain ⟨Z, hZ, hZs, hZl⟩ : ∃ Z : Array Value, (List.replicate 64 (Value.int .u8 0)).toArray = Z ∧ Z.size = 64 ∧ Z.toList = List.replicate 64 (Value.int .u8 0) := ⟨_, rfl, by rw [List.size_toArray, List.length_replicate], rfl⟩
  rw [hZ] at hmk
  have e1 : Z.toList.take 0 ++ Lib.byteCells k.data.toList ++ Z.toList.drop (0 + k.size) = (overTo p L 0).map vB := by
    have e2 : overTo p L 0 = L := by unfold overTo; rw [List.take_zero, List.drop_zero]; rfl
    have e3 : Lib.byteCells k.data.toList = k.data.toList.map vB := rfl
    rw [e2, e3, hZl, List.take_zero, List.nil_append, Nat.zero_add, List.drop_replicate, ← hL, List.map_append, List.map_replicate, hks]
    rfl
  have hR0 : Hid (Row vB ((w.alloc (.cells Z 5)).setRow w.heap.size ((Z.toList.take 0 ++ Lib.byteCells k.data.toList ++ Z.toList.drop (0 + k.size)).toArray)) w.heap.size 5 (overTo p L 0)) := by
    refine Lib.hid ?_
    have := setRow_heap (w.alloc (.cells Z 5)) w.heap.size Z (Z.toList.take 0 ++ Lib.byteCells k.data.toList ++ Z.toList.drop (0 + k.size)).toArray 5 (0, 0) (Blk.new w _ _)
    rw [e1] at this
    rw [e1]
    exact this
  have hcp := Lib.run_copy_row_string (P := Tryd.prog) (w.alloc (.cells Z 5)) 54 9 3 5 w.heap.size 0 64 64 k Z 5 Tryd.underlying54 (by kernel_rfl) (Blk.new w _ _) hk (by rw [hZs]; omega)
  have hB0 : Below w.heap.size w ((w.alloc (.cells Z 5)).setRow w.heap.size ((Z.toList.take 0 ++ Lib.byteCells k.data.toList ++ Z.toList.drop (0 + k.size)).toArray)) := below_setRow (by go_grown) (Nat.le_refl _) _
  rw [hov]
  generalize hW : (w.alloc (.cells Z 5)).setRow w.heap.size ((Z.toList.take 0 ++ Lib.byteCells k.data.toList ++ Z.toList.drop (0 + k.size)).toArray) = W0 at hR0 hcp hB0
  have HL := Lib.hid hll
  clear hL hll hov hZ hZs hZl hks e1 hW hk
  go_enter Tryd.func98, Tryd.ntmps98
  go_wp2_with (with_reducible refine wpList_copy_known _ rfl (.tmp 8) (.tmp 9) 54 9 rfl _ _ rfl rfl hcp ?_)
  clear hcp hmk
  go_loopw [13] (fun iv wr => ∃ i : Nat, i ≤ 64 ∧ iv = .int .i64 i ∧ Hid (Row vB wr w.heap.size 5 (overTo p L i)) ∧ Below w.heap.size w wr) (fun iv _ => 64 - (intOf iv).toNat)
  case atStart => exact ⟨0, by omega, rfl, hR0, hB0⟩
  case round =>
    clear hR0 hB0
    obtain ⟨i, hi, rfl, HR, hB⟩ := hrel
    by_cases hlt : i < 64
    · obtain ⟨x, hx⟩ : ∃ x, L[i]? = some x := ⟨_, List.getElem?_eq_getElem (by rw [HL.out]; exact hlt)⟩
      have c0 := HR.out.get (overTo_get hx)
      have f0 := HR.out.free i
      have hxr := u8_xor x p
      have HE := Lib.hid (overTo_set (p := p) hx)
      have hlt2 := HR.out.lt
      unfold vB at c0
      clear hx
      go_wp2
      go_roundw
      case rel => exact ⟨i + 1, by omega, by go_num, Lib.hid (by have := HR.out.set_ i (x ^^^ p); rw [HE.out] at this; exact this), by go_grown⟩
      case measure => simp [intOf]; omega
    · obtain rfl : i = 64 := by omega
      have hrow : Blk wr w.heap.size 5 ((L.map (fun c => c ^^^ p)).map vB).toArray := by
        have := HR.out
        rw [← HL.out, overTo_all] at this
        exact this
      have hcv := run_brow (base := w.heap.size) (L := L.map (fun c => c ^^^ p)) (n := 64) (c := 64) 54 9 5 Tryd.underlying54 Tryd.underlying5 Tryd.underlying9 (by rw [List.length_map, HL.out]) (by
        have := brow_new wr (Nat.le_refl w.heap.size) (L.map (fun c => c ^^^ p)) hrow (by rw [List.length_map, HL.out]; omega)
        rwa [List.length_map, HL.out] at this)
      clear hrow
      go_wp2
      go_ret
      exact ⟨rfl, hB⟩
set_option maxRecDepth 100000 in
set_option maxHeartbeats 400000 in
theorem mac_any (key s : ByteArray) (w : World) (hG : Rounds w) (hk : key.size ≤ 1000000) (hs : s.size ≤ 1000000) :
    Calls Tryd.prog 80 #[.string key, .string s] w fun e w' => e = .returned (.string (macB key s)) ∧ Below w.heap.size w w' := by
  have HG := Lib.hid hG
  have HS := Lib.hid hs
  have HK := Lib.hid hk
  obtain ⟨k, hkk⟩ : ∃ k, keyB key = k := ⟨_, rfl⟩
  have hk64 := keyB_le key
  rw [hkk] at hk64
  have HKK := Lib.hid hkk
  have HK64 := Lib.hid hk64
  have h1 : macB key s = sumS (overB 92 k ++ sumS (overB 54 k ++ s)) := by unfold macB; rw [hkk]
  rw [h1]
  have HO := Lib.hid (And.intro (overB_size (p := 92) hk64) (overB_size (p := 54) hk64))
  have hO1 : (overB 92 k).size ≤ 64 := by have := HO.out.1; omega
  have hO2 : (overB 54 k).size ≤ 64 := by have := HO.out.2; omega
  have h54 := fun W => over_any 54 k W hk64
  have h92 := fun W => over_any 92 k W hk64
  generalize overB 92 k = O at *
  generalize overB 54 k = I at *
  have H54 := Lib.hid h54
  have H92 := Lib.hid h92
  have HSI := Lib.hid (fun (W : World) (h : Rounds W) => sum_in (I ++ s) W (by rw [ByteArray.size_append]; have := HO.out.2; have := HS.out; omega) h)
  have hm32 := sumS_size (I ++ s)
  generalize hM : sumS (I ++ s) = M at *
  have HSO := Lib.hid (fun (W : World) (h : Rounds W) => sum_in (O ++ M) W (by rw [ByteArray.size_append]; have := HO.out.1; omega) h)
  generalize hT : sumS (O ++ M) = T at *
  have hm2 : M.size ≤ 32 := by omega
  clear hG hk hkk hk64 h1 h54 h92 hM hT hm32
  by_cases hlong : 64 < key.size
  · have e1 : sumS key = k := by have := HKK.out; unfold keyB at this; rwa [if_pos hlong] at this
    have HE := Lib.hid e1
    clear e1
    go_enter Tryd.func80, Tryd.ntmps80
    go_wp2_with fail
    refine (sum_in key _ (by have := HK.out; omega) HG.out).mono ?_
    rintro e w0 ⟨rfl, hb0⟩
    rw [HE.out]
    go_wp2_with fail
    refine (H92.out _).mono ?_
    rintro e w1 ⟨rfl, hb1⟩
    have hB1 := hb0.trans (hb1.mono hb0.size)
    clear hb0 hb1
    go_wp2_with fail
    refine (H54.out _).mono ?_
    rintro e w2 ⟨rfl, hb2⟩
    have hB2 := hB1.trans (hb2.mono hB1.size)
    clear hB1 hb2
    go_wp2_with fail
    refine (HSI.out _ (rounds_of HG.out hB2)).mono ?_
    rintro e w3 ⟨rfl, hb3⟩
    have hB3 := hB2.trans (hb3.mono hB2.size)
    clear hB2 hb3
    go_wp2_with fail
    refine (HSO.out _ (rounds_of HG.out hB3)).mono ?_
    rintro e w4 ⟨rfl, hb4⟩
    have hB4 := hB3.trans (hb4.mono hB3.size)
    clear hB3 hb4
    go_wp2_with fail
    go_ret
    exact ⟨rfl, hB4⟩
  · obtain rfl : key = k := by have := HKK.out; unfold keyB at this; rwa [if_neg hlong] at this
    clear HKK
    go_enter Tryd.func80, Tryd.ntmps80
    go_wp2_with fail
    refine (H92.out _).mono ?_
    rintro e w1 ⟨rfl, hB1⟩
    go_wp2_with fail
    refine (H54.out _).mono ?_
    rintro e w2 ⟨rfl, hb2⟩
    have hB2 := hB1.trans (hb2.mono hB1.size)
    clear hB1 hb2
    go_wp2_with fail
    refine (HSI.out _ (rounds_of HG.out hB2)).mono ?_
    rintro e w3 ⟨rfl, hb3⟩
    have hB3 := hB2.trans (hb3.mono hB2.size)
    clear hB2 hb3
    go_wp2_with fail
    refine (HSO.out _ (rounds_of HG.out hB3)).mono ?_
    rintro e w4 ⟨rfl, hb4⟩
    have hB4 := hB3.trans (hb4.mono hB3.size)
    clear hB3 hb4
    go_wp2_with fail
    go_ret
    exact ⟨rfl, hB4⟩
theorem extract_any (salt key : ByteArray) (w : World) (hG : Rounds w) (hk : salt.size ≤ 1000000) (hs : key.size ≤ 1000000) :
    Calls Tryd.prog 63 #[.string salt, .string key] w fun e w' => e = .returned (.string (macB salt key)) ∧ Below w.heap.size w w' := by
  have HM := Lib.hid (mac_any salt key w hG hk hs)
  clear hG hk hs
  go_enter Tryd.func63, Tryd.ntmps63
  go_wp2_with fail
  refine HM.out.mono ?_
  rintro e w1 ⟨rfl, hb1⟩
  go_wp2_with fail
  go_ret
  exact ⟨rfl, hb1⟩
end Go.Proofs.YtbgohcedakpnbaaDoor
/- keyed: parts. -/
namespace Go.Proofs.YtbgohcedakpnbaaDoor
open Go.RowKit Go.Shelf
attribute [local go_sem] Oper.semAt_some
theorem kparts_in (F : Fence) (n : Nat) (hf : F.fn 78) (hro : F.round = none) (key info : ByteArray) (w : World) :
    CallsIn F n Tryd.prog 78 #[.string key, .string info] w fun e w' => e = .returned (.func (.func 96) #[] #[.pointer (some ⟨w.heap.size, 0, none⟩), .pointer (some ⟨w.heap.size + 1, 0, none⟩)]) ∧ (w.alloc (.cells #[.string key] 9)).alloc (.cells #[.string info] 9) = w' := by
  refine callsIn_of_wp Tryd.func78 rfl hf ?_ hro
  simp only [Tryd.ntmps78, List.size_toArray, List.length_cons, List.length_nil, Nat.reduceAdd, Nat.reduceSub, Array.replicate_succ, Array.replicate_zero, List.push_toArray, List.append_toArray, List.nil_append, List.cons_append]
  gi_wp2
  go_ret
  exact ⟨rfl, rfl⟩
structure P32 where
  (x : ByteArray) (ok : x.size = 32)
def partP (key info : ByteArray) (i : Nat) : P32 := ⟨partK key info (i + 1), partK_size key info i⟩
def partsL (key info : ByteArray) (k : Nat) : List P32 := (List.range k).map fun i => partP key info i
theorem partsL_len (key info : ByteArray) (k : Nat) : (partsL key info k).length = k := by simp [partsL]
theorem partsL_succ (key info : ByteArray) (k : Nat) : partsL key info k ++ [partP key info k] = partsL key info (k + 1) := by simp [partsL, List.range_succ]
theorem partsL_prefix (key info : ByteArray) {i k : Nat} (h : i ≤ k) : partsL key info i <+: partsL key info k := by
  induction k with
  | zero => obtain rfl : i = 0 := by omega
            exact List.prefix_refl _
  | succ k ih =>
    by_cases e : i = k + 1
    · rw [e]; exact List.prefix_refl _
    · rw [← partsL_succ]; exact (ih (by omega)).trans (List.prefix_append _ _)
theorem partsL_of_prefix (key info : ByteArray) {pre : List P32} {k : Nat} (h : pre <+: partsL key info k) : pre = partsL key info pre.length := by
  have hl := h.length_le
  rw [partsL_len] at hl
  have h2 := partsL_prefix key info hl
  exact List.IsPrefix.eq_of_length (List.prefix_of_prefix_length_le h h2 (by rw [partsL_len]; omega)) (by rw [partsL_len])
/-- the bytes of some parts -/
def catL (pre : List P32) : List UInt8 := pre.flatMap fun p => p.x.data.toList
theorem catL_snoc (pre : List P32) (p : P32) : catL (pre ++ [p]) = catL pre ++ p.x.data.toList := by simp [catL]
theorem catL_len (pre : List P32) : (catL pre).length = 32 * pre.length := by
  induction pre with
  | nil => rfl
  | cons p r ih =>
    have : p.x.data.toList.length = p.x.size := by simp
    have hp := p.ok
    show ((p :: r).flatMap _).length = _
    rw [List.flatMap_cons, List.length_append, List.length_cons]
    show _ + (catL r).length = _
    omega
theorem catL_parts (key info : ByteArray) (i : Nat) : catL (partsL key info i) = (catK key info i).data.toList := by
  induction i with
  | zero => rfl
  | succ i ih => rw [← partsL_succ, catL_snoc, ih, catK, ByteArray.data_append, Array.toList_append]; rfl
theorem one_byte_at (x : Nat) (hx : x < 256) (W : World) (g : Nat) (hg : W.heap.size = g) :
    (convert 54 9 (.slice (some ⟨g, 0, none⟩) 1 1)).run Tryd.prog (W.alloc (.cells #[.int .u8 x] 5)) = .ok (.string ⟨#[UInt8.ofNat x]⟩) (W.alloc (.cells #[.int .u8 x] 5)) := by
  have hv : (Value.int .u8 (x : Int)) = vB (UInt8.ofNat x) := by
    unfold vB
    have : (UInt8.ofNat x).toNat = x := by simp; omega
    rw [this]
  rw [hv]
  exact run_brow (base := g) (L := [UInt8.ofNat x]) 54 9 5 Tryd.underlying54 Tryd.underlying5 Tryd.underlying9 rfl (brow_new W (Nat.le_refl g) [UInt8.ofNat x] (Blk.new_at hg _ _) (by simp))
set_option maxHeartbeats 1000000 in
set_option maxRecDepth 100000 in
theorem kparts1_in (n : Nat) (hn : 1 ≤ n) (l B1 B2 : Nat) (key info : ByteArray) (hk : key.size ≤ 1000000) (hi : info.size ≤ 100000) (J Jx : List P32 → World → Prop) (Kp : World → World → Prop)
    (hKr : ∀ A, Kp A A) (hKt : ∀ A B C, Kp A B → Kp B C → Kp A C) (hKc : ∀ A B, Kp A B → B.cell? ⟨B1, 0, none⟩ = A.cell? ⟨B1, 0, none⟩ ∧ B.cell? ⟨B2, 0, none⟩ = A.cell? ⟨B2, 0, none⟩)
    (hKg : ∀ A B, Kp A B → Rounds A → Rounds B) (hKb : ∀ A B, B1 < A.heap.size → B2 < A.heap.size → Rounds A → Below A.heap.size A B → Kp A B) (hKs : ∀ A B, Kp A B → A.heap.size ≤ B.heap.size)
    (hJb : ∀ pre A B, J pre A → Below A.heap.size A B → J pre B)
    (hY : ∀ pre (x : P32) W, J pre W → pre.length < 255 → YieldAt Fence.wide (n - 1) Tryd.prog l #[.string x.x] W fun e W' =>
      (e = .returned (.bool true) ∧ J (pre ++ [x]) W' ∧ Kp W W') ∨ (e = .returned (.bool false) ∧ Jx (pre ++ [x]) W'))
    (W : World) (hG : Rounds W) (h1 : W.cell? ⟨B1, 0, none⟩ = some (.string key)) (h2 : W.cell? ⟨B2, 0, none⟩ = some (.string info)) (hl1 : B1 < W.heap.size) (hl2 : B2 < W.heap.size) (h0 : J [] W) :
    CallsIn Fence.wide n Tryd.prog 96 #[.func (.yield l) #[] #[], .pointer (some ⟨B1, 0, none⟩), .pointer (some ⟨B2, 0, none⟩)] W fun e W' => (∃ v, e = .returned v) ∧
      ((∃ ys, ys = partsL key info 255 ∧ J ys W') ∨ (∃ pre, pre <+: partsL key info 255 ∧ Jx pre W')) := by
  have HY := Lib.hid hY
  have HK := Lib.hid hKt
  have HKc := Lib.hid hKc
  have HKg := Lib.hid hKg
  have HKb := Lib.hid hKb
  have HKs := Lib.hid hKs
  have HJb := Lib.hid hJb
  have HS := Lib.hid (And.intro hk hi)
  have HG := Lib.hid hG
  have HC := Lib.hid (And.intro h1 h2)
  clear hY hKt hKc hKg hKb hKs hJb hk hi hG h1 h2
  refine callsIn_of_wp Tryd.func96 rfl trivial ?_ rfl
  simp only [Tryd.ntmps96, List.size_toArray, List.length_cons, List.length_nil, Nat.reduceAdd, Nat.reduceSub, Array.replicate_succ, Array.replicate_zero, List.push_toArray, List.append_toArray, List.nil_append, List.cons_append]
  gi_wp2
  gi_loopw [4, 5] (fun v iv wr => ∃ (k i : Nat) (t : ByteArray), v = .string t ∧ iv = .int .i64 i ∧ Hid (i = k + 1) ∧ k ≤ 255 ∧ Hid (t = partK key info k) ∧ Hid (J (partsL key info k) wr) ∧ Hid (Kp W wr)) (fun _ iv _ => 256 - (intOf iv).toNat)
  case atStart => exact ⟨0, 1, _, rfl, rfl, rfl, by omega, rfl, by simpa [Hid, partsL] using h0, hKr _⟩
  case round =>
    obtain ⟨k, i, t, rfl, rfl, HI, hk, HT, HJ, HB⟩ := hrel
    have hsz := HKs.out _ _ HB.out
    obtain ⟨kc1, kc2⟩ := HKc.out _ _ HB.out
    have c1 := kc1.trans HC.out.1
    have c2 := kc2.trans HC.out.2
    have HGr := Lib.hid (HKg.out _ _ HB.out HG.out)
    clear kc1 kc2
    by_cases hlt : i ≤ 255
    · have hi255 : (i : Int) ≤ 255 := by omega
      have hi0 : (0 : Int) ≤ (i : Int) := by omega
      have ht32 : t.size ≤ 32 := by rw [HT.out]; exact partK_le _ _ _
      have hin : info.size ≤ 100000 := HS.out.2
      have hR1 := one_byte_at i (by omega) wr wr.heap.size rfl
      have HP : Hid (macB key (t ++ info ++ ⟨#[UInt8.ofNat i]⟩) = partK key info (k + 1)) := Lib.hid (by rw [HT.out, HI.out]; rfl)
      gi_wp2_with fail
      refine ⟨trivial, ?_⟩
      gi_at_call 80
      have hm := mac_any key (t ++ info ++ ⟨#[UInt8.ofNat i]⟩) (wr.alloc (.cells #[.int .u8 i] 5)) (HGr.out.below (B := wr.heap.size) (by go_grown) HGr.out.pos) HS.out.1 (by rw [ByteArray.size_append, ByteArray.size_append, one_size]; omega)
      refine (callsIn_wide.2 hm).mono ?_
      clear hm
      rintro e w1 ⟨rfl, hb1⟩
      rw [HP.out]
      have hB1 : Below wr.heap.size wr w1 := Below.trans (by go_grown) (hb1.mono (by simp))
      clear hb1 hR1
      have HK1 := Lib.hid (HKb.out _ _ (by omega) (by omega) HGr.out hB1)
      obtain ⟨fn, tmps, assign, body, hy, hR⟩ := HY.out _ (partP key info k) w1 (HJb.out _ _ _ HJ.out hB1) (by rw [partsL_len]; have := HI.out; omega)
      have HRR := Lib.hid hR
      clear hR
      unfold partP at hy
      gi_wp2_with fail
      refine HRR.out.mono ?_
      rintro e W3 (⟨rfl, hJ3, hk3⟩ | ⟨rfl, hJx3⟩)
      · rw [partsL_succ] at hJ3
        have HJ3 := Lib.hid hJ3
        have HK3 := Lib.hid (HK.out _ _ _ HB.out (HK.out _ _ _ HK1.out hk3))
        clear hJ3 hk3
        gi_wp2_with fail
        go_roundw
        case rel => exact ⟨k + 1, i + 1, _, rfl, by go_num, Lib.hid (by rw [HI.out]), by have := HI.out; omega, rfl, HJ3, HK3⟩
        case measure => simp [intOf]; omega
      · rw [partsL_succ] at hJx3
        have HJ3 := Lib.hid hJx3
        have HLE : Hid (k + 1 ≤ 255) := Lib.hid (by have := HI.out; omega)
        clear hJx3
        gi_wp2_with fail
        refine bodyPost_ret (results_none rfl _ _ _) rfl ?_
        exact ⟨⟨_, rfl⟩, .inr ⟨_, partsL_prefix key info HLE.out, HJ3⟩⟩
    · obtain rfl : k = 255 := by have := HI.out; omega
      obtain rfl : i = 256 := by have := HI.out; omega
      gi_wp2_with fail
      go_end0
      exact ⟨⟨_, rfl⟩, .inl HJ.out⟩
end Go.Proofs.YtbgohcedakpnbaaDoor
/- keyed: Expand, Derive. -/
namespace Go.Proofs.YtbgohcedakpnbaaDoor
open Go.RowKit Go.Shelf
attribute [local go_sem] Oper.semAt_some
theorem bld_grown {B b : Nat} {l : List UInt8} {W W' : World} {row : Option Nat} (h : Bld B b l W) (hg : W.grownBy W' row) (hr : ∀ r, row = some r → ∃ o : Obj, W.heap[r]? = some o ∧ o.isCells = false) : Bld B b l W' := by
  have key : ∀ (k : Nat) (cs : Array Value) (t : TypeId) (fr : Nat × Nat), W.heap[k]? = some (.cells cs t fr) → W'.heap[k]? = some (.cells cs t fr) := fun k cs t fr hk =>
    (hg.block k (Array.getElem?_eq_some_iff.1 hk).1 (fun e => by
      obtain ⟨o, ho, hc⟩ := hr k e.symm
      rw [hk] at ho; injection ho with ho; subst ho; cases hc)).trans hk
  have main : ∀ p, Lib.BuilderAtF 56 5 B b p (Lib.byteCells l) W → Lib.BuilderAtF 56 5 B b p (Lib.byteCells l) W' := fun p h => by
    obtain ⟨hB, v, hb, hown, hne⟩ := h
    refine ⟨hB, v, key _ _ _ _ hb, ⟨hown.1, ?_⟩, hne⟩
    rcases hown.2 with hn | ⟨g, cap, cur, fz, hv, hbg, hgg, rest⟩
    · exact .inl hn
    · exact .inr ⟨g, cap, cur, fz, hv, hbg, key _ _ _ _ hgg, rest⟩
  exact Or.imp (main _) (main _) h
theorem bld_below {B b : Nat} {l : List UInt8} {W W' : World} (h : Bld B b l W) (hb : Below W.heap.size W W') : Bld B b l W' :=
  bld_grown (row := none) h ⟨hb.os, hb.tape, hb.output, hb.size, fun k hk _ => hb.block k hk⟩ (fun r e => by cases e)
/-- what stands around the rounds: the number's box, the builder, the key's and the info's boxes -/
def EX (w W : World) (key info : ByteArray) (n : Nat) (l : List UInt8) : Prop :=
  Below w.heap.size w W ∧ Blk W w.heap.size 3 #[.int .i64 n] ∧ Bld (w.heap.size + 1) (w.heap.size + 1) l W ∧ Blk W (w.heap.size + 1 + 1) 9 #[.string key] ∧ Blk W (w.heap.size + 1 + 1 + 1) 9 #[.string info]
theorem EX.grown {w W W' : World} {key info : ByteArray} {n : Nat} {l : List UInt8} {row : Option Nat} (h : EX w W key info n l) (hg : W.grownBy W' row) (hr : ∀ r, row = some r → w.heap.size ≤ r ∧ ∃ o : Obj, W.heap[r]? = some o ∧ o.isCells = false) : EX w W' key info n l := by
  obtain ⟨h1, h2, h3, h4, h5⟩ := h
  have hr' := fun r e => (hr r e).2
  exact ⟨h1.grown hg h1.size (fun k e => by have := (hr k e).1; omega), blk_own _ _ (fun (_ : Unit) => _) () W W' row h2 hg hr', bld_grown h3 hg hr', blk_own _ _ (fun (_ : Unit) => _) () W W' row h4 hg hr', blk_own _ _ (fun (_ : Unit) => _) () W W' row h5 hg hr'⟩
theorem EX.write {w W W' : World} {key info : ByteArray} {n : Nat} {l l' : List UInt8} (h : EX w W key info n l) (hb : Below (w.heap.size + 1) W W') (hk : BldKept (w.heap.size + 1) W W') (hl : Bld (w.heap.size + 1) (w.heap.size + 1) l' W') : EX w W' key info n l' := by
  obtain ⟨h1, h2, h3, h4, h5⟩ := h
  exact ⟨h1.trans (hb.mono (by omega)), h2.below hb (by omega), hl, hk.blk h4 (by omega) (by decide), hk.blk h5 (by omega) (by decide)⟩
def KK (w A B : World) : Prop := Kept 5 A B ∧ Kept (w.heap.size + 1 + 1) A B ∧ Kept (w.heap.size + 1 + 1 + 1) A B ∧ A.heap.size ≤ B.heap.size
theorem KK.of {w A B : World} {key info : ByteArray} {n : Nat} {l l' : List UInt8} (h : EX w A key info n l) (h' : EX w B key info n l') (hb : Below (w.heap.size + 1) A B) (h0 : 5 < w.heap.size) : KK w A B :=
  ⟨Kept.below hb (by omega), (show B.heap[w.heap.size + 1 + 1]? = A.heap[w.heap.size + 1 + 1]? by rw [show B.heap[w.heap.size + 1 + 1]? = _ from h'.2.2.2.1, show A.heap[w.heap.size + 1 + 1]? = _ from h.2.2.2.1]), (show B.heap[w.heap.size + 1 + 1 + 1]? = A.heap[w.heap.size + 1 + 1 + 1]? by rw [show B.heap[w.heap.size + 1 + 1 + 1]? = _ from h'.2.2.2.2, show A.heap[w.heap.size + 1 + 1 + 1]? = _ from h.2.2.2.2]), hb.size⟩
theorem KK.refl (w A : World) : KK w A A := ⟨Kept.refl _ _, Kept.refl _ _, Kept.refl _ _, Nat.le_refl _⟩
theorem KK.trans {w A B C : World} (h : KK w A B) (k : KK w B C) : KK w A C := ⟨h.1.trans k.1, h.2.1.trans k.2.1, h.2.2.1.trans k.2.2.1, Nat.le_trans h.2.2.2 k.2.2.2⟩
theorem Bld.alloc {B b : Nat} {l : List UInt8} {w : World} (h : Bld B b l w) (o : Obj) : Bld B b l (w.alloc o) := Lib.IsBuilderF.alloc h o
theorem Bld.drew {B b : Nat} {l : List UInt8} {w : World} (h : Bld B b l w) : Bld B b l w.drew := h
theorem kexp_no (key info : ByteArray) (n : Int) (w : World) (h : n < 1 ∨ 8160 < n) :
    Calls Tryd.prog 62 #[.string key, .string info, .int .i64 n] w fun e w' => e = .returned (.tuple #[.string ByteArray.empty, .int .i64 1]) ∧ Below w.heap.size w w' := by
  by_cases h1 : n < 1
  · have t1 : decide (n < 1) = true := by simpa using h1
    clear h h1
    go_enter Tryd.func62, Tryd.ntmps62
    go_wp2
    go_ret2
    exact ⟨rfl, by go_grown⟩
  · have t1 : decide (n < 1) = false := by simpa using h1
    have t2 : decide (8160 < n) = true := by simp; omega
    clear h h1
    go_enter Tryd.func62, Tryd.ntmps62
    go_wp2
    go_ret2
    exact ⟨rfl, by go_grown⟩
set_option maxHeartbeats 1000000 in
set_option maxRecDepth 100000 in
theorem kexp_in (key info : ByteArray) (n : Nat) (w : World) (hG : Rounds w) (hk : key.size ≤ 1000000) (hi : info.size ≤ 100000) (h1 : 1 ≤ n) (h2 : n ≤ 8160) :
    Calls Tryd.prog 62 #[.string key, .string info, .int .i64 n] w fun e w' => e = .returned (.tuple #[.string (expB key info n), .int .i64 0]) ∧ Below w.heap.size w w' := by
  have HG := Lib.hid hG
  have HS := Lib.hid (And.intro hk hi)
  have hpos := hG.pos
  have t1 : decide ((n : Int) < 1) = false := by simp; omega
  have t2 : decide (8160 < (n : Int)) = false := by simp; omega
  clear hG hk hi
  refine (callsIn_wide (n := 10)).1 ?_
  refine callsIn_of_wp_marks Tryd.func62 rfl trivial ?_ rfl
  simp only [Tryd.ntmps62, List.size_toArray, List.length_cons, List.length_nil, Nat.reduceAdd, Nat.reduceSub, Array.replicate_succ, Array.replicate_zero, List.push_toArray, List.append_toArray, List.nil_append, List.cons_append]
  gi_wp2_with fail
  refine ⟨trivial, ?_⟩
  gi_at_call 78
  refine (kparts_in Fence.wide _ trivial rfl key info _).mono ?_
  rintro e w3 ⟨rfl, rfl⟩
  gi_wp2_with fail
  have hEX : EX w ((((w.alloc (.cells #[.int .i64 n] 3)).alloc (.cells #[.pointer none, .slice none 0 0] 56)).alloc (.cells #[.string key] 9)).alloc (.cells #[.string info] 9)) key info n (catL []) := by
    refine ⟨by go_grown, (((Blk.new w _ _).alloc _).alloc _).alloc _, ?_, (Blk.new_at (g := w.heap.size + 1 + 1) (by simp) _ _).alloc _, Blk.new_at (g := w.heap.size + 1 + 1 + 1) (by simp) _ _⟩
    have h0 := bld_new (w.alloc (.cells #[.int .i64 n] 3))
    rw [World.size_alloc] at h0
    exact (h0.alloc _).alloc _
  generalize hW0 : (((w.alloc (.cells #[.int .i64 n] 3)).alloc (.cells #[.pointer none, .slice none 0 0] 56)).alloc (.cells #[.string key] 9)).alloc (.cells #[.string info] 9) = W0 at hEX ⊢
  have hsz0 : W0.heap.size = w.heap.size + 1 + 1 + 1 + 1 := by rw [← hW0]; simp
  have HEX := Lib.hid hEX
  have HG0 := Lib.hid (rounds_of HG.out hEX.1)
  clear hW0 hEX t1 t2
  refine wpIn_rangeFunc_ownH rfl (by omega) (gf := 96) (lb := #[.pointer (some ⟨w.heap.size + 1 + 1, 0, none⟩), .pointer (some ⟨w.heap.size + 1 + 1 + 1, 0, none⟩)]) rfl trivial (enters_of Tryd.func96 (by kernel_rfl) rfl)
    (encs := fun x : P32 => #[.string x.x]) (Kp := KK w) (S := fun xs => xs = partsL key info 255) (Sp := fun pre => pre <+: partsL key info 255) (N := 255) (w0 := W0)
    (fun l J Jx W hW hJ hJx hY h0 => kparts1_in _ (by omega) l (w.heap.size + 1 + 1) (w.heap.size + 1 + 1 + 1) key info HS.out.1 HS.out.2 J Jx (KK w) (KK.refl w) (fun _ _ _ => KK.trans) (fun A B h => ⟨h.2.1.cell 0, h.2.2.1.cell 0⟩)
      (fun A B h hg k x hx => (h.1.cell k).trans (hg k x hx)) (fun A B h1 h2 hg hb => ⟨Kept.below hb hg.pos, Kept.below hb h1, Kept.below hb h2, hb.size⟩) (fun A B h => h.2.2.2)
      (fun pre A B hs hb => hJ pre A B none hs ⟨hb.os, hb.tape, hb.output, hb.size, fun k hk _ => hb.block k hk⟩ (fun r e => by cases e)) hY W (rounds_of HG0.out hW)
      ((hW.cell (p := ⟨w.heap.size + 1 + 1, 0, none⟩) (by simp; omega)).trans (HEX.out.2.2.2.1.cells 0 _ rfl)) ((hW.cell (p := ⟨w.heap.size + 1 + 1 + 1, 0, none⟩) (by simp; omega)).trans (HEX.out.2.2.2.2.cells 0 _ rfl)) (by have := hW.size; omega) (by have := hW.size; omega) h0)
    KK.trans (fun W l o o' hl h1 h2 h3 => by
      have hb := belowK_b (n₀ := W0.heap.size) (w := W0) (Nat.le_refl _) W l o o' hl h1 h2 h3
      exact ⟨Kept.below hb (by omega), Kept.below hb (by omega), Kept.below hb (by omega), hb.size⟩) (Below.refl _ _) (fun _ => rfl)
    (fun pre W => EX w W key info n (catL pre) ∧ 32 * pre.length < n ∧ W0.heap.size ≤ W.heap.size)
    (fun cd pre W => cd = .exit 0 ∧ ∃ (pre0 : List P32) (x : P32), pre = pre0 ++ [x] ∧ 32 * pre0.length < n ∧ n ≤ 32 * pre0.length + 32 ∧ EX w W key info n (catL pre0 ++ (x.x.extract 0 (n - 32 * pre0.length)).data.toList))
    (fun st W W' row hs hg hr => ⟨hs.1.grown hg (fun r e => ⟨by have := (hr r e).1; omega, (hr r e).2⟩), hs.2.1, Nat.le_trans hs.2.2 hg.size⟩)
    (fun cd st W W' row hs hg hr => by
      obtain ⟨h1, pre0, x, h2, h3, h4, h5⟩ := hs
      exact ⟨h1, pre0, x, h2, h3, h4, h5.grown hg (fun r e => ⟨by have := (hr r e).1; omega, (hr r e).2⟩)⟩)
    ⟨HEX.out, by simp; omega, Nat.le_refl _⟩
    (fun x a' W => a' = { tmps := #[.string key, .string info, .int .i64 n, undef, undef, .pointer (some ⟨w.heap.size, 0, none⟩), .string ByteArray.empty, .int .i64 0, .pointer (some ⟨w.heap.size + 1, 0, none⟩), .string x.x, undef, .int .i64 n, .bool false, .bool false, .int .i64 n, .bool false, .bool false, .string key, .string info, .func (.func 96) #[] #[.pointer (some ⟨w.heap.size + 1 + 1, 0, none⟩), .pointer (some ⟨w.heap.size + 1 + 1 + 1, 0, none⟩)], .string x.x, undef, undef, undef, undef, undef, undef, undef, undef, undef, undef, undef, undef, undef, undef], defers := [] })
    (fun _ _ _ _ _ _ h _ _ => h)
    ?assign ?body ?done ?stop
  case assign =>
    rintro l pre x W K hI hK
    gi_wp2
    exact hK _ _ (KeepsFrom.refl _ _) (KK.refl w _) hI rfl
  case body =>
    rintro l pre x a' W hl _ ⟨hE, hn, hzW⟩ rfl hlt
    have c0 := hE.2.1.cells 0 _ rfl
    simp only [List.getElem_toArray, List.getElem_cons_zero] at c0
    obtain ⟨m, hm⟩ : ∃ m, 32 * pre.length = m := ⟨_, rfl⟩
    rw [hm] at hn
    obtain ⟨d, hd⟩ : ∃ d, n - m = d := ⟨_, rfl⟩
    have e1 : (n : Int) - (m : Int) = (d : Int) := by omega
    have e2 : IntKind.i64.wrap (d : Int) = (d : Int) := wrap_i64_nat _ (by omega)
    have d0 : (0 : Int) ≤ (d : Int) := by omega
    have hx32 := x.ok
    have hlen := bld_len (w.heap.size + 1) (w.heap.size + 1) (catL pre) W.drew hE.2.2.1.drew
    rw [catL_len, hm] at hlen
    have HLEN := Lib.hid hlen
    have HE := Lib.hid hE
    have HM := Lib.hid (And.intro hm (And.intro hn hd))
    have hse := hE.1.size
    have m255 : m < 8160 := by omega
    clear hlen hE hm hn hd
    by_cases hle : d ≤ 32
    · have l1 : (d : Int) ≤ 32 := by omega
      gi_wp2_with fail
      gi_region_with (refine ⟨trivial, ?_⟩; gi_at_call 79; refine (CallsIn.inRound l (callsIn_wide.2 HLEN.out)).mono ?_; rintro e w' ⟨rfl, rfl⟩)
      all_goals
        gi_wp2_with fail
        refine ⟨trivial, ?_⟩
        gi_at_call 31
        have hw := bld_write (w.heap.size + 1) (w.heap.size + 1) (catL pre) (x.x.extract 0 d) W.drew HE.out.2.2.1.drew (by rw [catL_len, HM.out.1, size_extract]; omega) (by simp; omega)
        refine (CallsIn.inRound l (callsIn_wide.2 hw)).mono ?_
        rintro e w1 ⟨rfl, hl1, hb1', hk1⟩
        have hb1 : Below (w.heap.size + 1) W w1 := Below.trans ((Below.refl _ W).drew) hb1'
        have hko := BldKept.others hk1 HE.out.2.2.1.drew hb1'.size
        have hko : KeepsOthers W w1 := ⟨hb1.size, fun k o hk ho => hko.same k o hk ho⟩
        clear hb1'
        have hE1 : EX w w1 key info n (catL pre ++ (x.x.extract 0 d).data.toList) := EX.write HE.out hb1 hk1 hl1
        have HF := Lib.hid (And.intro hko hE1)
        clear hw hl1 hb1 hk1 hE1 hko
        gi_wp2_with fail
        refine ⟨HF.out.1.from _, rfl, pre, x, rfl, by rw [HM.out.1]; exact HM.out.2.1, by have := HM.out.1; have := HM.out.2; omega, ?_⟩
        have h := HF.out.2
        rw [show n - 32 * pre.length = d by rw [HM.out.1]; exact HM.out.2.2]
        exact h
    · have l1 : 32 < (d : Int) := by omega
      gi_wp2_with fail
      gi_region_with (refine ⟨trivial, ?_⟩; gi_at_call 79; refine (CallsIn.inRound l (callsIn_wide.2 HLEN.out)).mono ?_; rintro e w' ⟨rfl, rfl⟩)
      all_goals
        gi_wp2_with fail
        refine ⟨trivial, ?_⟩
        gi_at_call 31
        have hw := bld_write (w.heap.size + 1) (w.heap.size + 1) (catL pre) x.x W.drew HE.out.2.2.1.drew (by rw [catL_len, HM.out.1]; omega) (by simp; omega)
        refine (CallsIn.inRound l (callsIn_wide.2 hw)).mono ?_
        rintro e w1 ⟨rfl, hl1, hb1', hk1⟩
        have hb1 : Below (w.heap.size + 1) W w1 := Below.trans ((Below.refl _ W).drew) hb1'
        have hko := BldKept.others hk1 HE.out.2.2.1.drew hb1'.size
        have hko : KeepsOthers W w1 := ⟨hb1.size, fun k o hk ho => hko.same k o hk ho⟩
        clear hb1'
        have hE1 : EX w w1 key info n (catL pre ++ x.x.data.toList) := EX.write HE.out hb1 hk1 hl1
        have HF := Lib.hid (And.intro hko (And.intro hE1 (And.intro (KK.of HE.out hE1 hb1 hpos) hb1.size)))
        clear hw hl1 hb1 hk1 hE1 hko
        gi_wp2_with fail
        refine ⟨HF.out.1.from _, HF.out.2.2.1, ?_, by rw [List.length_append]; simp; have := HM.out; omega, by have := HF.out.2.2.2; omega⟩
        rw [catL_snoc]
        exact HF.out.2.1
  case done =>
    rintro D ys W hD rfl ⟨hE, hn, hzW⟩ hK
    exfalso
    rw [partsL_len] at hn
    omega
  case stop =>
    rintro D cd pre W hD hpre ⟨rfl, pre0, x, rfl, hn1, hn2, hE⟩ hK0
    have hp := partsL_of_prefix key info hpre
    have hl : (pre0 ++ [x]).length = pre0.length + 1 := by simp
    rw [hl, ← partsL_succ] at hp
    obtain ⟨h1, h2⟩ := List.append_inj' hp rfl
    have hx : x.x = partK key info (pre0.length + 1) := by
      injection h2 with h2 _
      rw [h2]; rfl
    have hcat : (⟨(catL pre0 ++ (x.x.extract 0 (n - 32 * pre0.length)).data.toList).toArray⟩ : ByteArray) = expB key info n := by
      rw [← cat_cut key info hn1 hn2, hx]
      have h3 : catL pre0 = (catK key info pre0.length).data.toList := by rw [h1, catL_parts]; rw [← h1]
      rw [h3]
      apply ByteArray.ext
      rw [ByteArray.data_append]
      apply Array.ext'
      simp
    obtain ⟨l, hll⟩ : ∃ l, catL pre0 ++ (x.x.extract 0 (n - 32 * pre0.length)).data.toList = l := ⟨_, rfl⟩
    rw [hll] at hE hcat
    have hs := bld_string (w.heap.size + 1) (w.heap.size + 1) l W hE.2.2.1 (by have := hE.2.2.1; have := hE.2.1.lt; omega)
    rw [hcat] at hs
    have HS1 := Lib.hid hs
    have HE := Lib.hid hE
    have HK0 := Lib.hid hK0
    clear hs hE hcat hll hx h1 h2 hp hpre hK0
    gi_wp2_with fail
    refine ⟨trivial, ?_⟩
    gi_at_call 33
    refine (callsIn_wide.2 HS1.out).mono ?_
    rintro e w1 ⟨rfl, hl1, hb1, hk1⟩
    have hK1 : w1.heap[D]? = some (.deferred (some [])) := hk1 D _ HK0.out (by
      intro e
      cases e
      have hk := HK0.out
      rcases HE.out.2.2.1 with ⟨_, v, hx, _⟩ | ⟨_, v, hx, _⟩ <;>
      · rw [hx] at hk; cases hk) (fun c fz e => by cases e)
    have hB1 := HE.out.1.trans (hb1.mono (by omega))
    clear hb1 hk1 hl1
    gi_wp2_with fail
    refine ⟨by simp, .inl ⟨_, _, rfl, run_takeDeferred hK1, ?_⟩⟩
    exact ⟨_, results_tmp2 rfl _ _ _, by simp, hB1.trans (belowK_b (n₀ := w.heap.size) (w := W0) HEX.out.1.size w1 D _ _ hD hK1 rfl rfl)⟩
theorem kexp_all (key info : ByteArray) (n : Int) (w : World) (hG : Rounds w) (hk : key.size ≤ 1000000) (hi : info.size ≤ 100000) :
    Calls Tryd.prog 62 #[.string key, .string info, .int .i64 n] w fun e w' => e = .returned (.tuple #[.string (expS key info n), .int .i64 (expE n)]) ∧ Below w.heap.size w w' := by
  by_cases h : 1 ≤ n ∧ n ≤ 8160
  · obtain ⟨m, rfl⟩ : ∃ m : Nat, n = m := ⟨n.toNat, by omega⟩
    have := kexp_in key info m w hG hk hi (by omega) (by omega)
    unfold expS expE
    rw [if_pos h, if_pos h]
    exact this
  · unfold expS expE
    rw [if_neg h, if_neg h]
    exact kexp_no key info n w (by omega)
theorem kderive_all (key salt info : ByteArray) (n : Int) (w : World) (hG : Rounds w) (hk : key.size ≤ 1000000) (hs : salt.size ≤ 1000000) (hi : info.size ≤ 100000) :
    Calls Tryd.prog 44 #[.string key, .string salt, .string info, .int .i64 n] w fun e w' => e = .returned (.tuple #[.string (expS (macB salt key) info n), .int .i64 (expE n)]) ∧ Below w.heap.size w w' := by
  have HG := Lib.hid hG
  have HM := Lib.hid (extract_any salt key w hG hs hk)
  have h2 := fun (W : World) (h : Rounds W) => kexp_all (macB salt key) info n W h (by rw [macB_size]; omega) hi
  clear hG hk hs hi
  generalize macB salt key = M at *
  generalize expS M info n = X at *
  generalize expE n = Y at *
  have H2 := Lib.hid h2
  clear h2
  go_enter Tryd.func44, Tryd.ntmps44
  go_wp2_with fail
  refine HM.out.mono ?_
  rintro e w1 ⟨rfl, hb1⟩
  go_wp2_with fail
  refine (H2.out _ (rounds_of HG.out hb1)).mono ?_
  rintro e w2 ⟨rfl, hb2⟩
  go_wp2_with fail
  go_ret2
  exact ⟨rfl, hb1.trans (hb2.mono hb1.size)⟩
end Go.Proofs.YtbgohcedakpnbaaDoor
