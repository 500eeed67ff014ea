/- keyed: the reference's Bytes, Mac. -/
import Derived.Test.YtkaaicmadknjcaaDoorKeyP
import Derived.Test.YtkaaicmadknjcaaDoorRefH
import Derived.Test.YtkaaicmadknjcaaDoorPldC
set_option linter.unusedVariables false
namespace Go.Proofs.YtkaaicmadknjcaaDoor
open Go.RowKit
theorem step_append_byte {w : World} {base : Nat} {v : Value} {L : List UInt8} {ops : Array Oper} {o : Oper} {a : Act} {K : Act → World → Prop} {Q : Exit → Act → World → Prop} {E : Prop} (hgd : o.guard = none) (s x : Operand)
    (ho : o.op = .call { callee := .builtin .append, args := #[s, x], argTypes := #[40, 40] })
    (hs : a.eval s = v) (hown : BRow w base v L) (g : Nat) (b : UInt8) (u : Value) (hx : a.eval x = .slice (some ⟨g, 0, none⟩) 1 1) (hB : Blk w g 5 #[u]) (hu : u = vB b) (n : Nat) (hl : L.length = n) (L' : List UInt8) (hL : L ++ [b] = L') (hn : n + 1 ≤ 140737488355328) (hbase : base ≤ w.heap.size)
    (h : ∀ A c w', Hid (BRow w' base (.slice A (n + 1) c) L') → w.grownBy w' v.ownBlock → Below base w w' → K (a.put o.dst (.slice A (n + 1) c)) w') :
    if Region.wanted o (yielded ops a.tmps) = true then Oper.wp Tryd.prog o a w K Q else E := by
  subst hu hL
  obtain ⟨i0, hi0, hz0, hz1, hz2⟩ := info_parts byte_info
  refine step_append_any _ hgd s x _ ho base _ i0 _ 1 1 Tryd.underlying40 hi0 hz0 hz1 hz2 rfl (by omega) v L.length (L.map vB) hs hown (g + 1) (some ⟨g, 0, none⟩) 1 1 [vB b] hx ?_ (by simp [vB, Value.oneCell']) (by simp only [maxLen]; omega) (by omega) hbase ?_
  · refine ⟨rfl, fun _ => ⟨_, rfl, by simp, fun j u hu => ?_⟩⟩
    have hadd : (⟨g, 0, none⟩ : Addr).add j = ⟨g, j, none⟩ := by unfold Addr.add; split <;> simp_all
    rw [hadd, hB.cell]
    simpa using hu
  · intro v' w' h1 h2 _
    have h1' : BRow w' base v' (L ++ [b]) := brow_join h1 _ (by simp) (by simp)
    obtain ⟨A, c, rfl⟩ := brow_form h1'
    have hn1 : (L ++ [b]).length = n + 1 := by simp [hl]
    rw [hn1] at h1' ⊢
    exact h A c w' (Lib.hid h1') h2 ((Below.refl base w).grown h2 hbase (fun k e => (World.ownsRow.lt hown k e).1))
theorem unlike_byte (x y z : Nat) (w : World) (hx : x < 4294967296) (hy : y < 4294967296) (h : x ^^^ y = z) :
    Calls Tryd.prog 86 #[.int .i64 x, .int .i64 y] w fun e w' => e = .returned (.int .i64 z) ∧ w = w' := by
  subst h; exact unlike_any x y w hx hy
theorem wrap_u8_nat (z : Nat) (h : z < 256) : IntKind.u8.wrap (z : Int) = z := by
  simp only [IntKind.wrap, IntKind.bits, IntKind.signed]
  simp
  omega
def xorL (a b : ByteArray) : List UInt8 := List.zipWith (fun x y => x ^^^ y) a.data.toList b.data.toList
theorem xorL_len {a b : ByteArray} (h : a.size = b.size) : (xorL a b).length = a.size := by
  have h1 : a.data.toList.length = a.size := by simp
  have h2 : b.data.toList.length = b.size := by simp
  simp [xorL]; omega
theorem xorL_take {a b : ByteArray} (h : a.size = b.size) {k : Nat} (hk : k < a.size) (hk2 : k < b.size) : (xorL a b).take k ++ [a[k] ^^^ b[k]] = (xorL a b).take (k + 1) := by
  rw [List.take_succ_eq_append_getElem (by rw [xorL_len h]; exact hk)]
  congr 2
  unfold xorL
  rw [List.getElem_zipWith]
  rfl
set_option maxHeartbeats 1000000 in
set_option maxRecDepth 100000 in
theorem rbytes_any (a b : ByteArray) (n : Nat) (w : World) (ha : a.size = n) (hb : b.size = n) (hn : n ≤ 1000000) :
    Calls Tryd.prog 101 #[.string a, .string b] w fun e w' => e = .returned (.string ⟨(xorL a b).toArray⟩) ∧ Below w.heap.size w w' := by
  have hab : a.size = b.size := by omega
  have HAB := Lib.hid (And.intro ha (And.intro hb hab))
  obtain ⟨X, hX⟩ : ∃ X, xorL a b = X := ⟨_, rfl⟩
  have hXl : X.length = n := by rw [← hX, xorL_len hab, ha]
  have HX := Lib.hid (And.intro hX hXl)
  have la : (a.size : Int) = (n : Int) := by omega
  have lb : (b.size : Int) = (n : Int) := by omega
  rw [hX]
  clear ha hb hab hX hXl
  go_enter Tryd.func101, Tryd.ntmps101
  go_wp2_with fail
  go_loopw [5, 6] (fun v iv wr => ∃ (k : Nat) (A : Option Addr) (c : Nat), k ≤ n ∧ iv = .int .i64 k ∧ v = .slice A k c ∧ Hid (BRow wr w.heap.size (.slice A k c) (X.take k)) ∧ Below w.heap.size w wr) (fun _ iv _ => n - (intOf iv).toNat)
  case atStart => exact ⟨0, none, 0, by omega, rfl, rfl, brow_nil _ _, Below.refl _ _⟩
  case round =>
    obtain ⟨k, A, c, hk, rfl, rfl, HR, hB⟩ := hrel
    have hsz := hB.size
    by_cases hlt : k < n
    · have hka : k < a.size := by have := HAB.out.1; omega
      have hkb : k < b.size := by have := HAB.out.2.1; omega
      have ha1 := UInt8.toNat_lt a[k]
      have hb1 := UInt8.toNat_lt b[k]
      obtain ⟨z, hz⟩ : ∃ z, a[k].toNat ^^^ b[k].toNat = z := ⟨_, rfl⟩
      have hz1 : z < 256 := by rw [← hz]; exact Nat.xor_lt_two_pow (n := 8) ha1 hb1
      have HU : Hid (Value.int .u8 (z : Int) = vB (a[k] ^^^ b[k])) := Lib.hid (by unfold vB; rw [UInt8.toNat_xor, hz])
      have HT : Hid (X.take k ++ [a[k] ^^^ b[k]] = X.take (k + 1)) := Lib.hid (by rw [← HX.out.1]; exact xorL_take HAB.out.2.2 hka hkb)
      have HL : Hid ((X.take k).length = k) := Lib.hid (by rw [List.length_take, HX.out.2]; omega)
      have HZ := Lib.hid hz
      have wz := wrap_u8_nat z hz1
      have wa := wrap_i64_nat a[k].toNat (by omega)
      have wb := wrap_i64_nat b[k].toNat (by omega)
      have k0 : (0 : Int) ≤ (k : Int) := by omega
      have k1 : (k : Int) < (a.size : Int) := by omega
      have k2 : (k : Int) < (b.size : Int) := by omega
      clear hz
      go_wp2_with fail
      go_region_law (first
        | (refine step_append_byte rfl (.tmp 19) (.tmp 30) rfl rfl (brow_below (w' := _) HR.out (by go_grown) (Nat.le_refl _)) wr.heap.size (a[k] ^^^ b[k]) _ rfl (Blk.new_at (by simp) _ _) HU.out k HL.out _ HT.out (by omega) (by simp; omega) ?_; intro A1 c1 w1 HR1 hg1 hb1)
        | (go_simp; go_at_call 86; (with_reducible refine (unlike_byte a[k].toNat b[k].toNat z _ (by omega) (by omega) HZ.out).mono ?_); rintro r w3 ⟨rfl, rfl⟩))
      all_goals
        clear hg1
        go_wp2_with fail
        go_roundw
        case rel => exact ⟨k + 1, A1, c1, by omega, by go_num, rfl, HR1, Below.trans (by go_grown) hb1⟩
        case measure => simp [intOf]; omega
    · obtain rfl : k = n := by omega
      have hrow := HR.out
      rw [List.take_of_length_le (by rw [HX.out.2]; omega)] at hrow
      have hcv := run_brow 40 9 5 Tryd.underlying40 Tryd.underlying5 Tryd.underlying9 HX.out.2 hrow
      clear hrow
      go_wp2
      go_ret
      exact ⟨rfl, hB⟩
theorem xor_over (p : UInt8) {k : ByteArray} (h : k.size ≤ 64) : (⟨(xorL (k ++ manyB 0 (64 - k.size)) (manyB p 64)).toArray⟩ : ByteArray) = overB p k := by
  have hl : k.data.toList.length = k.size := by simp
  have e : (k ++ manyB 0 (64 - k.size)).data.toList = k.data.toList ++ List.replicate (64 - k.size) 0 := by
    rw [ByteArray.data_append, Array.toList_append]; rfl
  unfold overB overL xorL
  rw [e, hl]
  congr 1
  congr 1
  have e2 : (manyB p 64).data.toList = List.replicate 64 p := rfl
  rw [e2]
  apply List.ext_getElem
  · rw [List.length_zipWith, List.length_map, List.length_append, List.length_replicate, List.length_replicate]; omega
  · intro i h1 h2
    rw [List.getElem_zipWith, List.getElem_map, List.getElem_replicate]
set_option maxHeartbeats 1000000 in
set_option maxRecDepth 100000 in
theorem rmac_any (key s : ByteArray) (w : World) (hk : key.size ≤ 100000) (hs : s.size ≤ 100000) :
    Calls Tryd.prog 38 #[.string key, .string s] w fun e w' => e = .returned (.string (macB key s)) ∧ Below w.heap.size w w' := by
  have HS := Lib.hid hs
  have hs1 : s.size ≤ 100000 := hs
  have HK := Lib.hid hk
  obtain ⟨k, hkk⟩ : ∃ k, keyB key = k := ⟨_, rfl⟩
  have hk64 := keyB_le key
  rw [hkk] at hk64
  have HKK := Lib.hid hkk
  have h1 : macB key s = sumS (overB 92 k ++ sumS (overB 54 k ++ s)) := by unfold macB; rw [hkk]
  rw [h1]
  have hO1 := overB_size (p := 92) hk64
  have hO2 := overB_size (p := 54) hk64
  obtain ⟨z, hz⟩ : ∃ z, 64 - k.size = z := ⟨_, rfl⟩
  have hzz : z ≤ 64 := by omega
  have hpz : (k ++ manyB 0 z).size = 64 := by rw [ByteArray.size_append, manyB_size]; omega
  have h54 := fun W => rbytes_any (k ++ manyB 0 z) (manyB 54 64) 64 W hpz (manyB_size _ _) (by omega)
  have h92 := fun W => rbytes_any (k ++ manyB 0 z) (manyB 92 64) 64 W hpz (manyB_size _ _) (by omega)
  rw [← hz, xor_over 54 hk64] at h54
  rw [← hz, xor_over 92 hk64] at h92
  rw [hz] at h54 h92
  have hm0 := fun W => many_any 0 z W (by omega)
  have hm54 := fun W => many_any 54 64 W (by omega)
  have hm92 := fun W => many_any 92 64 W (by omega)
  have hpl : k.size + (manyB 0 z).size ≤ 64 := by rw [manyB_size]; omega
  generalize manyB 0 z = Z0 at *
  generalize manyB 54 64 = Z54 at *
  generalize manyB 92 64 = Z92 at *
  generalize overB 92 k = O at *
  generalize overB 54 k = I at *
  have HO := Lib.hid (And.intro hO1 hO2)
  have hO1' : O.size ≤ 64 := by omega
  have hO2' : I.size ≤ 64 := by omega
  have H54 := Lib.hid h54
  have H92 := Lib.hid h92
  have HM0 := Lib.hid hm0
  have HM54 := Lib.hid hm54
  have HM92 := Lib.hid hm92
  have HSI := Lib.hid (fun (W : World) => rsum_str (I ++ s) W (by rw [ByteArray.size_append]; have := HS.out; omega))
  have hm32 := sumS_size (I ++ s)
  generalize hM : sumS (I ++ s) = M at *
  have HSO := Lib.hid (fun (W : World) => rsum_str (O ++ M) W (by rw [ByteArray.size_append]; omega))
  generalize hT : sumS (O ++ M) = T at *
  have hm2 : M.size ≤ 32 := by omega
  have e64 : 64 - (k.size : Int) = (z : Int) := by omega
  clear hk hs hkk h1 hO1 hO2 hz hpz h54 h92 hm0 hm54 hm92 hM hT hm32
  by_cases hlong : 64 < key.size
  · have e1 : sumS key = k := by have := HKK.out; unfold keyB at this; rwa [if_pos hlong] at this
    have HE := Lib.hid e1
    clear e1
    go_enter Tryd.func38, Tryd.ntmps38
    go_wp2_with fail
    refine (rsum_str key _ (by have := HK.out; omega)).mono ?_
    rintro e w0 ⟨rfl, hb0⟩
    rw [HE.out]
    go_wp2_with fail
    refine (HM0.out _).mono ?_
    rintro e wa ⟨rfl, hba⟩
    have hB0 := hb0.trans (hba.mono hb0.size)
    clear hb0 hba
    go_wp2_with fail
    refine (HM54.out _).mono ?_
    rintro e w1 ⟨rfl, hb1⟩
    have hB1 := hB0.trans (hb1.mono hB0.size)
    clear hB0 hb1
    go_wp2_with fail
    refine (H54.out _).mono ?_
    rintro e w2 ⟨rfl, hb2⟩
    have hB2 := hB1.trans (hb2.mono hB1.size)
    clear hB1 hb2
    go_wp2_with fail
    refine (HM92.out _).mono ?_
    rintro e w3 ⟨rfl, hb3⟩
    have hB3 := hB2.trans (hb3.mono hB2.size)
    clear hB2 hb3
    go_wp2_with fail
    refine (H92.out _).mono ?_
    rintro e w4 ⟨rfl, hb4⟩
    have hB4 := hB3.trans (hb4.mono hB3.size)
    clear hB3 hb4
    go_wp2_with fail
    refine (HSI.out _).mono ?_
    rintro e w5 ⟨rfl, hb5⟩
    have hB5 := hB4.trans (hb5.mono hB4.size)
    clear hB4 hb5
    go_wp2_with fail
    refine (HSO.out _).mono ?_
    rintro e w6 ⟨rfl, hb6⟩
    have hB6 := hB5.trans (hb6.mono hB5.size)
    clear hB5 hb6
    go_wp2_with fail
    go_ret
    exact ⟨rfl, hB6⟩
  · obtain rfl : key = k := by have := HKK.out; unfold keyB at this; rwa [if_neg hlong] at this
    clear HKK
    go_enter Tryd.func38, Tryd.ntmps38
    go_wp2_with fail
    refine (HM0.out _).mono ?_
    rintro e wa ⟨rfl, hB0⟩
    go_wp2_with fail
    refine (HM54.out _).mono ?_
    rintro e w1 ⟨rfl, hb1⟩
    have hB1 := hB0.trans (hb1.mono hB0.size)
    clear hB0 hb1
    go_wp2_with fail
    refine (H54.out _).mono ?_
    rintro e w2 ⟨rfl, hb2⟩
    have hB2 := hB1.trans (hb2.mono hB1.size)
    clear hB1 hb2
    go_wp2_with fail
    refine (HM92.out _).mono ?_
    rintro e w3 ⟨rfl, hb3⟩
    have hB3 := hB2.trans (hb3.mono hB2.size)
    clear hB2 hb3
    go_wp2_with fail
    refine (H92.out _).mono ?_
    rintro e w4 ⟨rfl, hb4⟩
    have hB4 := hB3.trans (hb4.mono hB3.size)
    clear hB3 hb4
    go_wp2_with fail
    refine (HSI.out _).mono ?_
    rintro e w5 ⟨rfl, hb5⟩
    have hB5 := hB4.trans (hb5.mono hB4.size)
    clear hB4 hb5
    go_wp2_with fail
    refine (HSO.out _).mono ?_
    rintro e w6 ⟨rfl, hb6⟩
    have hB6 := hB5.trans (hb6.mono hB5.size)
    clear hB5 hb6
    go_wp2_with fail
    go_ret
    exact ⟨rfl, hB6⟩
end Go.Proofs.YtkaaicmadknjcaaDoor
