/- keyed: over, Mac, Extract, Check. -/
import Derived.Test.YtkaaicmadknjcaaDoorKeyP
import Derived.Test.YtkaaicmadknjcaaDoorDigE
import Derived.Test.YtkaaicmadknjcaaDoorHex
import Derived.Lib.BufferWrite
set_option linter.unusedVariables false
namespace Go.Proofs.YtkaaicmadknjcaaDoor
open Go.RowKit
theorem u8_xor (a b : UInt8) : bits .xor .u8 ((a.toNat : Nat) : Int) ((b.toNat : Nat) : Int) = (((a ^^^ b).toNat : Nat) : Int) := by
  have ha := UInt8.toNat_lt a
  have hb := UInt8.toNat_lt b
  have hx : a.toNat ^^^ b.toNat < 2 ^ 8 := Nat.xor_lt_two_pow (by omega) (by omega)
  show IntKind.u8.wrap ((BitVec.ofInt 8 (a.toNat : Int) ^^^ BitVec.ofInt 8 (b.toNat : Int)).toNat : Int) = _
  rw [BitVec.toNat_xor, BitVec.ofInt_natCast, BitVec.ofInt_natCast, BitVec.toNat_ofNat, BitVec.toNat_ofNat, Nat.mod_eq_of_lt (by omega : a.toNat < 2 ^ 8), Nat.mod_eq_of_lt (by omega : b.toNat < 2 ^ 8), UInt8.toNat_xor]
  simp only [IntKind.wrap, IntKind.bits, IntKind.signed]
  simp
  omega
def overTo (p : UInt8) (l : List UInt8) (i : Nat) : List UInt8 := (l.take i).map (fun c => c ^^^ p) ++ l.drop i
theorem overTo_len (p : UInt8) (l : List UInt8) (i : Nat) : (overTo p l i).length = l.length := by simp [overTo]; omega
theorem overTo_get {p : UInt8} {l : List UInt8} {i : Nat} {c : UInt8} (h : l[i]? = some c) : (overTo p l i)[i]? = some c := by
  have hi := (List.getElem?_eq_some_iff.1 h).1
  unfold overTo
  rw [List.getElem?_append_right (by simp; omega), List.getElem?_drop]
  simp only [List.length_map, List.length_take]
  rw [show i + (i - min i l.length) = i by omega]; exact h
theorem overTo_set {p : UInt8} {l : List UInt8} {i : Nat} {c : UInt8} (h : l[i]? = some c) : (overTo p l i).set i (c ^^^ p) = overTo p l (i + 1) := by
  obtain ⟨hi, he⟩ := List.getElem?_eq_some_iff.1 h
  unfold overTo
  rw [List.set_append_right _ _ (by simp; omega), List.take_succ_eq_append_getElem hi, List.map_append, he, List.append_assoc]
  congr 1
  rw [List.length_map, List.length_take, show i - min i l.length = 0 by omega, List.drop_eq_getElem_cons hi, List.set_cons_zero]
  rfl
theorem overTo_all (p : UInt8) (l : List UInt8) : overTo p l l.length = l.map (fun c => c ^^^ p) := by simp [overTo]
theorem wpList_copy_known {P : Program} (w : World) {ops : Array Oper} {rest : List Oper} {o : Oper} {a : Act} {Q : Exit → Act → World → Prop} (hgd : o.guard = none) (d s : Operand) (t t' : TypeId)
    (ho : o.op = .call { callee := .builtin .copy, args := #[d, s], argTypes := #[t, t'] }) (v u : Value) (hd : a.eval d = v) (hs : a.eval s = u) {v' : Value} {w' : World}
    (hr : (Builtin.copy_ #[t, t'] o.type #[v, u]).run P w = .ok v' w') (h : wpList P ops Q rest (a.put o.dst v') w') : wpList P ops Q (o :: rest) a w :=
  wpList_plain hgd fun _ hK => by
    unfold Oper.wp execOp
    simp only [ho, resolve, invoke, builtin, Sem.run_bind, Sem.run_pure, Result.andThen_ok, List.map_toArray, List.map_cons, List.map_nil, hd, hs, hr]
    exact hK _ _ h
theorem make64 (w : World) : (Instr.makeSlice 40 (.int .i64 64) (.int .i64 64)).run Tryd.prog w = .ok (.slice (some ⟨w.heap.size, 0, none⟩) 64 64) (w.alloc (.cells (List.replicate 64 (Value.int .u8 0)).toArray 5)) :=
  run_mkrow (P := Tryd.prog) 40 5 (.int .u8 0) 1 Tryd.underlying40 byte_info rfl 64 (by omega) (by omega) w
set_option maxRecDepth 100000 in
set_option maxHeartbeats 400000 in
theorem over_any (p : UInt8) (k : ByteArray) (w : World) (hk : k.size ≤ 64) :
    Calls Tryd.prog 95 #[.int .u8 p.toNat, .string k] w fun e w' => e = .returned (.string (overB p k)) ∧ Below w.heap.size w w' := by
  obtain ⟨L, hL⟩ : ∃ L, k.data.toList ++ List.replicate (64 - k.data.toList.length) 0 = L := ⟨_, rfl⟩
  have hll : L.length = 64 := by rw [← hL]; have : k.data.toList.length = k.size := by simp
                                 simp; omega
  have hov : overB p k = ⟨(L.map (fun c => c ^^^ p)).toArray⟩ := by unfold overB overL; rw [hL]
  have hmk := make64 w
  have hks : k.data.toList.length = k.size := by simp
  obtain ⟨Z, hZ, hZs, hZl⟩ : ∃ Z : Array Value, (List.replicate 64 (Value.int .u8 0)).toArray = Z ∧ Z.size = 64 ∧ Z.toList = List.replicate 64 (Value.int .u8 0) := ⟨_, rfl, by rw [List.size_toArray, List.length_replicate], rfl⟩
  rw [hZ] at hmk
  have e1 : Z.toList.take 0 ++ Lib.byteCells k.data.toList ++ Z.toList.drop (0 + k.size) = (overTo p L 0).map vB := by
    have e2 : overTo p L 0 = L := by unfold overTo; rw [List.take_zero, List.drop_zero]; rfl
    have e3 : Lib.byteCells k.data.toList = k.data.toList.map vB := rfl
    rw [e2, e3, hZl, List.take_zero, List.nil_append, Nat.zero_add, List.drop_replicate, ← hL, List.map_append, List.map_replicate, hks]
    rfl
  have hR0 : Hid (Row vB ((w.alloc (.cells Z 5)).setRow w.heap.size ((Z.toList.take 0 ++ Lib.byteCells k.data.toList ++ Z.toList.drop (0 + k.size)).toArray)) w.heap.size 5 (overTo p L 0)) := by
    refine Lib.hid ?_
    have := setRow_heap (w.alloc (.cells Z 5)) w.heap.size Z (Z.toList.take 0 ++ Lib.byteCells k.data.toList ++ Z.toList.drop (0 + k.size)).toArray 5 (0, 0) (Blk.new w _ _)
    rw [e1] at this
    rw [e1]
    exact this
  have hcp := Lib.run_copy_row_string (P := Tryd.prog) (w.alloc (.cells Z 5)) 40 9 3 5 w.heap.size 0 64 64 k Z 5 Tryd.underlying40 (by kernel_rfl) (Blk.new w _ _) hk (by rw [hZs]; omega)
  have hB0 : Below w.heap.size w ((w.alloc (.cells Z 5)).setRow w.heap.size ((Z.toList.take 0 ++ Lib.byteCells k.data.toList ++ Z.toList.drop (0 + k.size)).toArray)) := below_setRow (by go_grown) (Nat.le_refl _) _
  rw [hov]
  generalize hW : (w.alloc (.cells Z 5)).setRow w.heap.size ((Z.toList.take 0 ++ Lib.byteCells k.data.toList ++ Z.toList.drop (0 + k.size)).toArray) = W0 at hR0 hcp hB0
  have HL := Lib.hid hll
  clear hL hll hov hZ hZs hZl hks e1 hW hk
  go_enter Tryd.func95, Tryd.ntmps95
  go_wp2_with (with_reducible refine wpList_copy_known _ rfl (.tmp 8) (.tmp 9) 40 9 rfl _ _ rfl rfl hcp ?_)
  clear hcp hmk
  go_loopw [13] (fun iv wr => ∃ i : Nat, i ≤ 64 ∧ iv = .int .i64 i ∧ Hid (Row vB wr w.heap.size 5 (overTo p L i)) ∧ Below w.heap.size w wr) (fun iv _ => 64 - (intOf iv).toNat)
  case atStart => exact ⟨0, by omega, rfl, hR0, hB0⟩
  case round =>
    clear hR0 hB0
    obtain ⟨i, hi, rfl, HR, hB⟩ := hrel
    by_cases hlt : i < 64
    · obtain ⟨x, hx⟩ : ∃ x, L[i]? = some x := ⟨_, List.getElem?_eq_getElem (by rw [HL.out]; exact hlt)⟩
      have c0 := HR.out.get (overTo_get hx)
      have f0 := HR.out.free i
      have hxr := u8_xor x p
      have HE := Lib.hid (overTo_set (p := p) hx)
      have hlt2 := HR.out.lt
      unfold vB at c0
      clear hx
      go_wp2
      go_roundw
      case rel => exact ⟨i + 1, by omega, by go_num, Lib.hid (by have := HR.out.set_ i (x ^^^ p); rw [HE.out] at this; exact this), by go_grown⟩
      case measure => simp [intOf]; omega
    · obtain rfl : i = 64 := by omega
      have hrow : Blk wr w.heap.size 5 ((L.map (fun c => c ^^^ p)).map vB).toArray := by
        have := HR.out
        rw [← HL.out, overTo_all] at this
        exact this
      have hcv := run_brow (base := w.heap.size) (L := L.map (fun c => c ^^^ p)) (n := 64) (c := 64) 40 9 5 Tryd.underlying40 Tryd.underlying5 Tryd.underlying9 (by rw [List.length_map, HL.out]) (by
        have := brow_new wr (Nat.le_refl w.heap.size) (L.map (fun c => c ^^^ p)) hrow (by rw [List.length_map, HL.out]; omega)
        rwa [List.length_map, HL.out] at this)
      clear hrow
      go_wp2
      go_ret
      exact ⟨rfl, hB⟩
set_option maxRecDepth 100000 in
set_option maxHeartbeats 400000 in
theorem mac_any (key s : ByteArray) (w : World) (hG : Rounds w) (hk : key.size ≤ 1000000) (hs : s.size ≤ 1000000) :
    Calls Tryd.prog 35 #[.string key, .string s] w fun e w' => e = .returned (.string (macB key s)) ∧ Below w.heap.size w w' := by
  have HG := Lib.hid hG
  have HS := Lib.hid hs
  have HK := Lib.hid hk
  obtain ⟨k, hkk⟩ : ∃ k, keyB key = k := ⟨_, rfl⟩
  have hk64 := keyB_le key
  rw [hkk] at hk64
  have HKK := Lib.hid hkk
  have HK64 := Lib.hid hk64
  have h1 : macB key s = sumS (overB 92 k ++ sumS (overB 54 k ++ s)) := by unfold macB; rw [hkk]
  rw [h1]
  have HO := Lib.hid (And.intro (overB_size (p := 92) hk64) (overB_size (p := 54) hk64))
  have hO1 : (overB 92 k).size ≤ 64 := by have := HO.out.1; omega
  have hO2 : (overB 54 k).size ≤ 64 := by have := HO.out.2; omega
  have h54 := fun W => over_any 54 k W hk64
  have h92 := fun W => over_any 92 k W hk64
  generalize overB 92 k = O at *
  generalize overB 54 k = I at *
  have H54 := Lib.hid h54
  have H92 := Lib.hid h92
  have HSI := Lib.hid (fun (W : World) (h : Rounds W) => sum_in (I ++ s) W (by rw [ByteArray.size_append]; have := HO.out.2; have := HS.out; omega) h)
  have hm32 := sumS_size (I ++ s)
  generalize hM : sumS (I ++ s) = M at *
  have HSO := Lib.hid (fun (W : World) (h : Rounds W) => sum_in (O ++ M) W (by rw [ByteArray.size_append]; have := HO.out.1; omega) h)
  generalize hT : sumS (O ++ M) = T at *
  have hm2 : M.size ≤ 32 := by omega
  clear hG hk hkk hk64 h1 h54 h92 hM hT hm32
  by_cases hlong : 64 < key.size
  · have e1 : sumS key = k := by have := HKK.out; unfold keyB at this; rwa [if_pos hlong] at this
    have HE := Lib.hid e1
    clear e1
    go_enter Tryd.func35, Tryd.ntmps35
    go_wp2_with fail
    refine (sum_in key _ (by have := HK.out; omega) HG.out).mono ?_
    rintro e w0 ⟨rfl, hb0⟩
    rw [HE.out]
    go_wp2_with fail
    refine (H92.out _).mono ?_
    rintro e w1 ⟨rfl, hb1⟩
    have hB1 := hb0.trans (hb1.mono hb0.size)
    clear hb0 hb1
    go_wp2_with fail
    refine (H54.out _).mono ?_
    rintro e w2 ⟨rfl, hb2⟩
    have hB2 := hB1.trans (hb2.mono hB1.size)
    clear hB1 hb2
    go_wp2_with fail
    refine (HSI.out _ (rounds_of HG.out hB2)).mono ?_
    rintro e w3 ⟨rfl, hb3⟩
    have hB3 := hB2.trans (hb3.mono hB2.size)
    clear hB2 hb3
    go_wp2_with fail
    refine (HSO.out _ (rounds_of HG.out hB3)).mono ?_
    rintro e w4 ⟨rfl, hb4⟩
    have hB4 := hB3.trans (hb4.mono hB3.size)
    clear hB3 hb4
    go_wp2_with fail
    go_ret
    exact ⟨rfl, hB4⟩
  · obtain rfl : key = k := by have := HKK.out; unfold keyB at this; rwa [if_neg hlong] at this
    clear HKK
    go_enter Tryd.func35, Tryd.ntmps35
    go_wp2_with fail
    refine (H92.out _).mono ?_
    rintro e w1 ⟨rfl, hB1⟩
    go_wp2_with fail
    refine (H54.out _).mono ?_
    rintro e w2 ⟨rfl, hb2⟩
    have hB2 := hB1.trans (hb2.mono hB1.size)
    clear hB1 hb2
    go_wp2_with fail
    refine (HSI.out _ (rounds_of HG.out hB2)).mono ?_
    rintro e w3 ⟨rfl, hb3⟩
    have hB3 := hB2.trans (hb3.mono hB2.size)
    clear hB2 hb3
    go_wp2_with fail
    refine (HSO.out _ (rounds_of HG.out hB3)).mono ?_
    rintro e w4 ⟨rfl, hb4⟩
    have hB4 := hB3.trans (hb4.mono hB3.size)
    clear hB3 hb4
    go_wp2_with fail
    go_ret
    exact ⟨rfl, hB4⟩
theorem extract_any (salt key : ByteArray) (w : World) (hG : Rounds w) (hk : salt.size ≤ 1000000) (hs : key.size ≤ 1000000) :
    Calls Tryd.prog 40 #[.string salt, .string key] w fun e w' => e = .returned (.string (macB salt key)) ∧ Below w.heap.size w w' := by
  have HM := Lib.hid (mac_any salt key w hG hk hs)
  clear hG hk hs
  go_enter Tryd.func40, Tryd.ntmps40
  go_wp2_with fail
  refine HM.out.mono ?_
  rintro e w1 ⟨rfl, hb1⟩
  go_wp2_with fail
  go_ret
  exact ⟨rfl, hb1⟩
theorem kcheck_any (key s mac : ByteArray) (w : World) (hG : Rounds w) (hk : key.size ≤ 1000000) (hs : s.size ≤ 1000000) :
    Calls Tryd.prog 39 #[.string key, .string s, .string mac] w fun e w' => e = .returned (.bool ((macB key s).toList == mac.toList)) ∧ Below w.heap.size w w' := by
  have HM := Lib.hid (mac_any key s w hG hk hs)
  clear hG hk hs
  generalize macB key s = M at *
  go_enter Tryd.func39, Tryd.ntmps39
  go_wp2_with fail
  refine HM.out.mono ?_
  rintro e w1 ⟨rfl, hb1⟩
  go_wp2_with fail
  refine (same_any M mac _).mono ?_
  rintro e w2 ⟨rfl, rfl⟩
  go_wp2_with fail
  go_ret
  exact ⟨rfl, hb1⟩
end Go.Proofs.YtkaaicmadknjcaaDoor
