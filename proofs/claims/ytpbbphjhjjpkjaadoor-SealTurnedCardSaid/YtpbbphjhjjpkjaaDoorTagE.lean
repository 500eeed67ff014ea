/- tag: read. -/
import Derived.Test.YtpbbphjhjjpkjaaDoorTagD
set_option linter.unusedVariables false
namespace Go.Proofs.YtpbbphjhjjpkjaaDoor
open Go.RowKit
theorem valD_append (l m : List Nat) : valD (l ++ m) = valD l + 256 ^ l.length * valD m := by
  induction l with
  | nil => simp [valD]
  | cons x l ih => simp only [List.cons_append, valD, ih, List.length_cons, Nat.pow_succ]; rw [Nat.mul_add, Nat.mul_comm (256 ^ l.length) 256, Nat.mul_assoc]; omega
theorem valD_take (l : List Nat) (k : Nat) : valD (l.take k) ≤ valD l := by
  have := valD_append (l.take k) (l.drop k)
  rw [List.take_append_drop] at this
  omega
theorem valD_take_succ {l : List Nat} {k x : Nat} (h : l[k]? = some x) : valD (l.take (k + 1)) = valD (l.take k) + x * 256 ^ k := by
  have hk : k < l.length := (List.getElem?_eq_some_iff.1 h).1
  rw [List.take_add_one, h]
  simp only [Option.toList_some]
  rw [valD_snoc, List.length_take, Nat.min_eq_left (by omega)]
/-- the boxes of read -/
def ReadAt (g : Nat) (L : List Nat) (W : World) : Prop := Blk W g 63 Z5 ∧ Row vN W (g + 1) 63 L
theorem ReadAt.step {g : Nat} {L : List Nat} {W : World} (h : ReadAt g L W) (j v : Nat) : ReadAt g (L.set j v) (W.setCell ⟨g + 1, j, none⟩ (.int .i64 v)) :=
  ⟨h.1.far (show g ≠ g + 1 by omega) _, h.2.set_ j v⟩
theorem parts_len (V : Nat) : (partsOf V).length = 5 := by simp [partsOf]
theorem parts_getD (V k : Nat) : (partsOf V).getD k 0 < 67108864 := by
  rw [List.getD_eq_getElem?_getD]
  by_cases h : k < 5
  · rw [parts_get V k h]; exact Nat.mod_lt _ (by omega)
  · rw [List.getElem?_eq_none (by rw [parts_len]; omega)]; simp
theorem shl_le (x b : Nat) (hx : x < 256) (hb : b < 26) : x * 2 ^ b ≤ 17179869184 := by
  have h2 : 2 ^ b ≤ 67108864 := Nat.pow_le_pow_right (n := 2) (by omega) (show b ≤ 26 by omega)
  have := Nat.mul_le_mul (show x ≤ 256 by omega) h2
  omega
theorem shl_val (x b : Nat) (hx : x < 256) (hb : b < 26) : wrap64 ((x : Int) * 2 ^ b) = ((x * 2 ^ b : Nat) : Int) := by
  have := shl_le x b hx hb
  have e2 : (x : Int) * 2 ^ b = ((x * 2 ^ b : Nat) : Int) := by rw [pow_cast]; simp
  rw [e2, wrap64_nat _ (by omega)]
theorem read_lo (p x b : Nat) (hp : p < 67108864) (hx : x < 256) (hb : b < 26) : wrap64 ((p : Int) + bits .and .i64 (wrap64 ((x : Int) * 2 ^ b)) 67108863) = ((p + x * 2 ^ b % 67108864 : Nat) : Int) := by
  have h := shl_le x b hx hb
  rw [shl_val x b hx hb, mask26 _ (by omega)]
  rw [show (p : Int) + ((x * 2 ^ b % 67108864 : Nat) : Int) = ((p + x * 2 ^ b % 67108864 : Nat) : Int) from by simp]
  exact wrap64_nat _ (by omega)
theorem read_hi (q x b : Nat) (hq : q < 67108864) (hx : x < 256) (hb : b < 26) : wrap64 ((q : Int) + wrap64 ((x : Int) * 2 ^ b) / 67108864) = ((q + x * 2 ^ b / 67108864 : Nat) : Int) := by
  have h := shl_le x b hx hb
  rw [shl_val x b hx hb]
  rw [show (q : Int) + ((x * 2 ^ b : Nat) : Int) / 67108864 = ((q + x * 2 ^ b / 67108864 : Nat) : Int) from by simp]
  exact wrap64_nat _ (by omega)
set_option maxHeartbeats 1000000 in
theorem tread_any (D : List Nat) (A : Option Addr) (n c : Nat) (w : World) (hD : SlR encI 1 w w.heap.size A n (ints D)) (hn : n ≤ 17) (h256 : ∀ x ∈ D, x < 256) (hv : valD D < 1361129467683753853853498429727072845824) (hpos : 0 < n) :
    Calls Tryd.prog 30 #[.slice A n c] w fun e w' => e = .returned (tnumV (partsOf (valD D))) ∧ Below w.heap.size w w' := by
  obtain ⟨hl, hA⟩ := hD
  have hl2 : D.length = n := by simpa [ints] using hl
  obtain ⟨bb, off, rfl, hbl, hC⟩ := hA.resolve_left (by omega)
  have HC := Lib.hid hC
  have HD := Lib.hid (And.intro hl2 (And.intro h256 hv))
  obtain ⟨VV, hVV⟩ : ∃ VV, partsOf (valD D) = VV := ⟨_, rfl⟩
  rw [hVV]
  have HVV := Lib.hid hVV
  clear hl hl2 hA hC h256 hv hVV
  unfold tnumV
  go_enter Tryd.func30, Tryd.ntmps30
  go_wp2_with fail
  have h0 : Hid (ReadAt w.heap.size (partsOf (valD (D.take 0))) ((w.alloc (.cells #[.int .i64 0, .int .i64 0, .int .i64 0, .int .i64 0, .int .i64 0] 63)).alloc (.cells #[.int .i64 0, .int .i64 0, .int .i64 0, .int .i64 0, .int .i64 0] 63))) := Lib.hid ⟨(Blk.new w _ _).alloc _, by have := Blk.new_at (w := w.alloc (.cells #[.int .i64 0, .int .i64 0, .int .i64 0, .int .i64 0, .int .i64 0] 63)) (g := w.heap.size + 1) (by simp) 63 Z5; rw [show partsOf (valD (D.take 0)) = [0, 0, 0, 0, 0] from by rw [List.take_zero]; decide]; exact this⟩
  go_loopw [9] (fun iv wr => ∃ i : Nat, i ≤ n ∧ iv = .int .i64 i ∧ Hid (ReadAt w.heap.size (partsOf (valD (D.take i))) wr) ∧ Below w.heap.size w wr) (fun iv _ => n - (intOf iv).toNat)
  case atStart => exact ⟨0, by omega, rfl, h0, by go_grown⟩
  case round =>
    clear h0
    obtain ⟨i, hi, rfl, HR, hB⟩ := hrel
    by_cases hlt : i < n
    · obtain ⟨x, hx⟩ : ∃ x, D[i]? = some x := ⟨_, List.getElem?_eq_getElem (by rw [HD.out.1]; exact hlt)⟩
      have hx1 := HD.out.2.1 x (List.mem_of_getElem? hx)
      have cx := (HC.out.below hB hbl).int (ints_get hx)
      have hvs := valD_take_succ hx
      have hle := valD_take D (i + 1)
      have hlt2 : valD (D.take i) < 256 ^ i := by
        have := valD_lt (D.take i) (fun y hy => HD.out.2.1 y (List.mem_of_mem_take hy))
        rwa [List.length_take, HD.out.1, Nat.min_eq_left (by omega)] at this
      have hput := putD_at (valD (D.take i)) i x (by omega) hx1 hlt2 (by have := HD.out.2.2; omega)
      rw [← hvs] at hput
      generalize valD (D.take i) = V at *
      obtain ⟨k, hk⟩ : ∃ k, 8 * i / 26 = k := ⟨_, rfl⟩
      obtain ⟨b, hb⟩ : ∃ b, 8 * i % 26 = b := ⟨_, rfl⟩
      have hk5 : k < 5 := by omega
      have hb26 : b < 26 := by omega
      unfold putD at hput
      simp only [hk, hb] at hput
      have hp := getD_at (L := partsOf V) (k := k) (by rw [parts_len]; exact hk5)
      have hp1 := parts_getD V k
      have ek : (8 * (i : Int)) / 26 = (k : Int) := by omega
      have eb : (8 * (i : Int)) % 26 = (b : Int) := by omega
      have i0 : (0 : Int) ≤ i := by omega
      have k0 : (0 : Int) ≤ k := by omega
      have k1 : (k : Int) < 5 := by omega
      have b0 : (0 : Int) ≤ b := by omega
      have b1 : (b : Int) < 26 := by omega
      have hgl := HR.out.2.lt
      have cp := HR.out.2.get hp
      have fp := HR.out.2.free k
      simp only [vN] at cp
      by_cases hk4 : k < 4
      · have tk : decide ((k : Int) < 4) = true := by simp; omega
        obtain ⟨k', hk'⟩ : ∃ k', k + 1 = k' := ⟨_, rfl⟩
        have hne : k ≠ k' := by omega
        rw [if_pos hk4, hk'] at hput
        rw [List.getD_eq_getElem?_getD (l := List.set _ _ _), List.getElem?_set_ne hne, ← List.getD_eq_getElem?_getD] at hput
        have hq := getD_at (L := partsOf V) (k := k') (by rw [parts_len]; omega)
        have hq1 := parts_getD V k'
        generalize (partsOf V).getD k 0 = p at hp hp1 hput cp
        generalize (partsOf V).getD k' 0 = q at hq hq1 hput
        have cq := HR.out.2.get hq
        have fq := HR.out.2.free k'
        simp only [vN] at cq
        have ek' : (k : Int) + 1 = (k' : Int) := by omega
        have k'0 : (0 : Int) ≤ k' := by omega
        have k'1 : (k' : Int) < 5 := by omega
        have HP := Lib.hid hput
        clear hput hx hvs hle hlt2 hp hq hk hb hk4 hk'
        go_wp2_with fail
        go_roundw
        case rel =>
          refine ⟨i + 1, by omega, by go_num, Lib.hid ?_, by go_grown⟩
          rw [read_lo p x b hp1 hx1 hb26, read_hi q x b hq1 hx1 hb26, ← HP.out]
          exact (HR.out.step k _).step k' _
        case measure => simp [intOf]; omega
      · have tk : decide ((k : Int) < 4) = false := by simp; omega
        rw [if_neg hk4] at hput
        generalize (partsOf V).getD k 0 = p at hp hp1 hput cp
        have HP := Lib.hid hput
        clear hput hx hvs hle hlt2 hp hk hb hk4
        go_wp2_with fail
        go_roundw
        case rel =>
          refine ⟨i + 1, by omega, by go_num, Lib.hid ?_, by go_grown⟩
          rw [read_lo p x b hp1 hx1 hb26, ← HP.out]
          exact HR.out.step k _
        case measure => simp [intOf]; omega
    · obtain rfl : i = n := by omega
      have hE : D.take i = D := List.take_of_length_le (by rw [HD.out.1]; exact Nat.le_refl _)
      have hR := HR.out
      rw [hE, HVV.out] at hR
      have HL := Lib.hid (parts_len (valD D))
      rw [HVV.out] at HL
      have HR' := Lib.hid hR
      clear hE hR HR
      go_wp2_with (first
        | (refine wpList_load_row rfl 63 (.tmp 3) rfl (w.heap.size + 1) rfl 63 (VV.map vN).toArray (0, 0) (.array 5 3) HR'.out.2 (by kernel_rfl) rfl (num_info HL.out) ?_)
        | (refine wpList_store_row rfl 63 (.tmp 2) (.tmp 40) rfl w.heap.size (VV.map vN).toArray rfl rfl 63 Z5 HR'.out.1 (num_info HL.out) (by rw [num_size HL.out]; rfl) (num_one _) ?_))
      refine bodyPost_ret (results_cell_row (Tryd.results30) _ _ w.heap.size 63 (VV.map vN).toArray (0, 0) (.array 5 3) rfl (setRow_heap _ _ _ _ _ _ HR'.out.1) (by kernel_rfl) rfl (num_info HL.out)) rfl ?_
      exact ⟨rfl, below_setRow hB (by omega) _⟩
end Go.Proofs.YtpbbphjhjjpkjaaDoor
