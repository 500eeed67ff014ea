/- the references of chapters 1 and 2: Is, All, word, Cut, Told, Join, Pad. -/
import Derived.Test.YtkaaicmadknjcaaDoorRefA
import Derived.Test.YtkaaicmadknjcaaDoorDigD
import Derived.Test.YtkaaicmadknjcaaDoorHex
set_option linter.unusedVariables false
namespace Go.Proofs.YtkaaicmadknjcaaDoor
open Go.RowKit
/-- v is a row of one's own, from block base on, that holds the numbers L -/
def IRow (w : World) (base : Nat) (v : Value) (L : List Nat) : Prop := w.ownsRow base 3 1 v L.length ((ints L).map vI)
section
variable {w w' : World} {base : Nat} {v : Value} {L : List Nat}
theorem irow_nil (w : World) (base : Nat) : IRow w base (.slice none 0 0) [] := World.ownsRow_nil _ _ _ _
theorem irow_alloc (h : IRow w base v L) (o : Obj) : IRow (w.alloc o) base v L := World.ownsRow.alloc h o
theorem irow_below {B : Nat} (h : IRow w base v L) (hb : Below B w w') (hB : w.heap.size ≤ B) : IRow w' base v L := own_below h hb hB
theorem irow_form (h : IRow w base v L) : ∃ A c, v = .slice A L.length c := by
  obtain ⟨A, c, hv, _⟩ := own_form h
  exact ⟨A, c, hv⟩
theorem irow_join {m : Nat} {xs : List Value} (h : w.ownsRow base 3 1 v m xs) (M : List Nat) (hm : m = M.length) (hx : xs = (ints M).map vI) : IRow w base v M := by subst hm hx; exact h
theorem irow_slr {A : Option Addr} {n c : Nat} (h : IRow w base (.slice A n c) L) (hn : L.length = n) : SlR encI 1 w w.heap.size A n (ints L) := by
  subst hn
  have hf : flat encI (ints L) = (ints L).map vI := by
    unfold flat
    induction (ints L) with
    | nil => rfl
    | cons x M ih => rw [List.flatMap_cons, ih]; rfl
  exact SlR.of_own (base := base) (e := 3) (c := c) encI_len (by rw [hf]; exact h) (by simp [ints])
theorem wpList_append_int {ops : Array Oper} {rest : List Oper} {o : Oper} {a : Act} {Q : Exit → Act → World → Prop} (hgd : o.guard = none) (s x : Operand)
    (ho : o.op = .call { callee := .builtin .append, args := #[s, x], argTypes := #[33, 33] })
    (hs : a.eval s = v) (hown : IRow w base v L) (g b : Nat) (hx : a.eval x = .slice (some ⟨g, 0, none⟩) 1 1) (hB : Blk w g 3 #[.int .i64 b]) (n : Nat) (hl : L.length = n) (L' : List Nat) (hL : L ++ [b] = L') (hn : n + 1 ≤ 1000000000) (hbase : base ≤ w.heap.size)
    (h : ∀ A c w', Hid (IRow w' base (.slice A (n + 1) c) L') → w.grownBy w' v.ownBlock → Below base w w' → wpList Tryd.prog ops Q rest (a.put o.dst (.slice A (n + 1) c)) w') : wpList Tryd.prog ops Q (o :: rest) a w := by
  subst hL
  obtain ⟨i0, hi0, hz0, hz1, hz2⟩ := info_parts int_info3
  refine wpList_append_any _ hgd s x _ ho base _ i0 _ 1 8 Tryd.underlying33 hi0 hz0 hz1 hz2 rfl (by omega) v L.length ((ints L).map vI) hs hown (g + 1) (some ⟨g, 0, none⟩) 1 1 [.int .i64 b] hx ?_ (by simp [Value.oneCell']) (by simp only [maxLen]; omega) (by omega) hbase ?_
  · refine ⟨rfl, fun _ => ⟨_, rfl, by simp, fun j u hu => ?_⟩⟩
    have hadd : (⟨g, 0, none⟩ : Addr).add j = ⟨g, j, none⟩ := by unfold Addr.add; split <;> simp_all
    rw [hadd, hB.cell]
    simpa using hu
  · intro v' w' h1 h2 _
    have h1' : IRow w' base v' (L ++ [b]) := irow_join h1 _ (by simp) (by simp [ints, vI])
    obtain ⟨A, c, rfl⟩ := irow_form h1'
    have hn1 : (L ++ [b]).length = n + 1 := by simp [hl]
    rw [hn1] at h1' ⊢
    exact h A c w' (Lib.hid h1') h2 ((Below.refl base w).grown h2 hbase (fun k e => (World.ownsRow.lt hown k e).1))
end
/-- the word of i bytes from a place on -/
def wordTo (s : ByteArray) (at_ : Nat) : Nat → Nat
  | 0 => 0
  | i + 1 => 256 * wordTo s at_ i + byteAt s (at_ + i)
theorem wordTo_lt (s : ByteArray) (at_ i : Nat) : wordTo s at_ i < 256 ^ i := by
  induction i with
  | zero => simp [wordTo]
  | succ i ih =>
    rw [wordTo, Nat.pow_succ]
    have := byteAt_lt s (at_ + i)
    omega
theorem wordTo_four (s : ByteArray) (j : Nat) : wordTo s (4 * j) 4 = wordAt s true j := by simp [wordTo, wordAt]
set_option maxHeartbeats 400000 in
theorem word_high (s : ByteArray) (a : Nat) (w : World) (h : a + 4 ≤ s.size) (hs : s.size ≤ 1000000) :
    Calls Tryd.prog 144 #[.string s, .int .i64 a, .bool true] w fun e w' => e = .returned (.int .i64 (wordTo s a 4 : Nat)) ∧ w = w' := by
  go_enter Tryd.func144, Tryd.ntmps144
  go_wp2
  go_loop [7, 8] (fun sn si => ∃ (i N : Nat), i ≤ 4 ∧ sn = .int .i64 N ∧ si = .int .i64 i ∧ N ≤ 4294967295 ∧ Hid (wordTo s a i = N)) (fun _ si => 4 - (intOf si).toNat)
  case atStart => exact ⟨0, 0, by omega, rfl, rfl, by omega, rfl⟩
  case round =>
    obtain ⟨i, N, hi, rfl, rfl, hN, HN⟩ := hrel
    by_cases hlt : i < 4
    · obtain ⟨k, hk⟩ : ∃ k, a + i = k := ⟨_, rfl⟩
      have hks : k < s.size := by omega
      have hb := byteAt_get s k hks
      have hbl := byteAt_lt s k
      have hlt2 : wordTo s a (i + 1) < 256 ^ (i + 1) := wordTo_lt s a (i + 1)
      have h4 : 256 ^ (i + 1) ≤ 256 ^ 4 := Nat.pow_le_pow_right (by decide) (by omega)
      have hS : wordTo s a (i + 1) = 256 * N + s[k].toNat := by rw [wordTo, HN.out, hk, hb]
      have hbs : s[k].toNat < 256 := by rw [hb]; exact hbl
      have hb2 : 256 * N + s[k].toNat ≤ 4294967295 := by rw [← hS]; omega
      have hN4 : 256 * N ≤ 4294967295 := by omega
      have HS := Lib.hid hS
      have e1 : (a : Int) + (i : Int) = (k : Int) := by omega
      clear hk hb hbl hlt2 h4 hS
      go_wp2
      go_round
      case rel => exact ⟨i + 1, 256 * N + s[k].toNat, by omega, by go_num, by go_num, by omega, HS⟩
      case measure => simp [intOf]; omega
    · obtain rfl : i = 4 := by omega
      go_wp2
      go_ret
      exact ⟨ret_int (by rw [HN.out]), rfl⟩
theorem cutL_take (s : ByteArray) (k : Nat) (h : k < s.size / 4) : (cutW s true).take k ++ [wordTo s (4 * k) 4] = (cutW s true).take (k + 1) := by
  rw [cutW_eq, List.take_succ_eq_append_getElem (by simp; exact h), wordTo_four]
  simp
set_option maxHeartbeats 400000 in
theorem rcut_any (s : ByteArray) (w : World) (h4 : s.size % 4 = 0) (hs : s.size ≤ 1000000) :
    Calls Tryd.prog 129 #[.string s, .bool true] w fun e w' => ∃ A c, e = .returned (.tuple #[.slice A (s.size / 4) c, .bool true]) ∧ IRow w' w.heap.size (.slice A (s.size / 4) c) (cutW s true) ∧ Below w.heap.size w w' := by
  have t0 : ((s.size : Int) % 4 != 0) = false := by simp; omega
  have H4 := Lib.hid h4
  clear h4
  go_enter Tryd.func129, Tryd.ntmps129
  go_wp2
  clear t0
  go_loopw [6, 7] (fun sv si wr => ∃ (k i : Nat) (A : Option Addr) (c : Nat), si = .int .i64 i ∧ sv = .slice A k c ∧ Hid (i = 4 * k) ∧ i ≤ s.size ∧ k ≤ 250000 ∧ Hid (IRow wr w.heap.size (.slice A k c) ((cutW s true).take k)) ∧ Below w.heap.size w wr) (fun _ si _ => s.size - (intOf si).toNat)
  case atStart => exact ⟨0, 0, none, 0, rfl, rfl, rfl, by omega, by omega, irow_nil _ _, Below.refl _ _⟩
  case round =>
    obtain ⟨k, i, A, c, rfl, rfl, HI, hi, hk, HR, hB⟩ := hrel
    have hBs := hB.size
    by_cases hlt : i < s.size
    · have hi4 : i + 4 ≤ s.size := by have := HI.out; have := H4.out; omega
      obtain ⟨x, hx⟩ : ∃ x, wordTo s i 4 = x := ⟨_, rfl⟩
      have hxl : x < 4294967296 := by rw [← hx]; exact wordTo_lt s i 4
      have hkl : k < s.size / 4 := by have := HI.out; omega
      have HE : Hid ((cutW s true).take k ++ [x] = (cutW s true).take (k + 1)) := Lib.hid (by rw [← hx, HI.out]; exact cutL_take s k hkl)
      have HLn : Hid (((cutW s true).take k).length = k) := Lib.hid (by rw [List.length_take, cutW_len]; omega)
      have HX := Lib.hid hx
      clear hx
      go_wp2_with fail
      refine (word_high s i _ hi4 hs).mono ?_
      rintro e w1 ⟨rfl, rfl⟩
      rw [HX.out]
      go_wp2_with (at_builtin; refine wpList_append_int rfl (.tmp 18) (.tmp 23) rfl rfl (irow_alloc HR.out _) wr.heap.size x rfl (Blk.new wr _ _) k HLn.out _ HE.out (by omega) (by simp; omega) ?_; intro A1 c1 w1 HR1 hg1 hb1)
      go_roundw
      case rel => exact ⟨k + 1, i + 4, A1, c1, by go_num, rfl, Lib.hid (by rw [HI.out]; omega), hi4, by omega, HR1, Below.trans (by go_grown) hb1⟩
      case measure => simp [intOf]; omega
    · obtain rfl : k = s.size / 4 := by have := HI.out; omega
      have HR2 : Hid (IRow wr w.heap.size (.slice A (s.size / 4) c) (cutW s true)) := by
        have := HR.out
        rw [List.take_of_length_le (by rw [cutW_len]; omega)] at this
        exact this
      obtain ⟨m, hm⟩ : ∃ m, s.size / 4 = m := ⟨_, rfl⟩
      rw [hm] at HR2 ⊢
      have HM := Lib.hid hm
      clear HR hk hm
      go_wp2
      go_ret2
      exact ⟨A, c, by rw [HM.out]; rfl, by rw [HM.out]; exact HR2.out, hB⟩
theorem told_high (x : Nat) (w : World) (hx : x < 4294967296) :
    Calls Tryd.prog 134 #[.int .i64 x, .bool true] w fun e w' => e = .returned (.string ⟨(toldB true x).toArray⟩) ∧ Below w.heap.size w w' := by
  obtain ⟨a, ha⟩ : ∃ a, x / 16777216 = a := ⟨_, rfl⟩
  obtain ⟨b, hb⟩ : ∃ b, x / 65536 % 256 = b := ⟨_, rfl⟩
  obtain ⟨c, hc⟩ : ∃ c, x / 256 % 256 = c := ⟨_, rfl⟩
  obtain ⟨d, hd⟩ : ∃ d, x % 256 = d := ⟨_, rfl⟩
  have hT : toldB true x = [UInt8.ofNat a, UInt8.ofNat b, UInt8.ofNat c, UInt8.ofNat d] := by simp only [toldB, ha, hb, hc, hd, if_true]
  have e1 : (x : Int) / 16777216 = (a : Int) := by omega
  have e2 : (x : Int) / 65536 % 256 = (b : Int) := by omega
  have e3 : (x : Int) / 256 % 256 = (c : Int) := by omega
  have e4 : (x : Int) % 256 = (d : Int) := by omega
  have a1 : a < 256 := by omega
  have b1 : b < 256 := by omega
  have c1 : c < 256 := by omega
  have d1 : d < 256 := by omega
  have hv : ∀ n : Nat, n < 256 → (Value.int .u8 (n : Int)) = vB (UInt8.ofNat n) := by
    intro n hn
    unfold vB
    have : (UInt8.ofNat n).toNat = n := by simp; omega
    rw [this]
  have hR : ∀ (W : World) (g : Nat), Blk W g 5 #[.int .u8 a, .int .u8 b, .int .u8 c, .int .u8 d] → (convert 40 9 (.slice (some ⟨g, 0, none⟩) 4 4)).run Tryd.prog W = .ok (.string ⟨#[UInt8.ofNat a, UInt8.ofNat b, UInt8.ofNat c, UInt8.ofNat d]⟩) W := by
    intro W g hB
    rw [hv a a1, hv b b1, hv c c1, hv d d1] at hB
    exact run_brow (base := g) (L := [UInt8.ofNat a, UInt8.ofNat b, UInt8.ofNat c, UInt8.ofNat d]) 40 9 5 Tryd.underlying40 Tryd.underlying5 Tryd.underlying9 rfl (brow_new W (Nat.le_refl g) [UInt8.ofNat a, UInt8.ofNat b, UInt8.ofNat c, UInt8.ofNat d] hB (by simp))
  have hR1 := hR _ _ (Blk.new w _ _)
  rw [hT]
  clear hT ha hb hc hd hR hv
  go_enter Tryd.func134, Tryd.ntmps134
  go_wp2
  go_ret
  exact ⟨rfl, by go_grown⟩
end Go.Proofs.YtkaaicmadknjcaaDoor
