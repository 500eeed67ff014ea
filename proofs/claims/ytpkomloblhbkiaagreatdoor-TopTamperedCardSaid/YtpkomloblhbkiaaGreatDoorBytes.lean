/- Rows of bytes of one's own: one byte more, and the text they make. -/
import Derived.Test.YtpkomloblhbkiaaGreatDoorWordA
import Derived.Laws.MakeOwn
import Derived.Laws.OwnMore
import Derived.Deep.OwnRows
import Derived.Deep.RegionWith
import Derived.StillTailTactics
import Derived.RegionTactic
import Derived.Laws.IdiomStrings
set_option linter.unusedVariables false
/- word: And, Rot; digest's add, xor, and, back, fall. -/
namespace Go.Proofs.YtpkomloblhbkiaaGreatDoor
open Go.RowKit
set_option maxHeartbeats 400000 in
theorem wand_any (a b : Nat) (w : World) (ha : a < 4294967296) (hb : b < 4294967296) :
    Calls Tryz.prog 108 #[.int .i64 a, .int .i64 b] w fun e w' => e = .returned (.tuple #[.int .i64 (a &&& b : Nat), .bool true]) ∧ w.alloc (.cells #[.int .i64 a, .int .i64 b] 3) = w' := by
  have hx := i64_and_nat a b (by omega) (by omega)
  have HI := Lib.hid (words_is (L := [a, b]) (by intro n hn; simp at hn; omega))
  go_enter Tryz.func108, Tryz.ntmps108
  go_wp2_with fail
  refine (is_any (ints [a, b]) _ 2 2 _ (slr_new2 w a b) (by omega)).mono ?_
  rintro e w1 ⟨rfl, rfl⟩
  rw [HI.out]
  go_wp2_with fail
  go_ret2
  exact ⟨rfl, rfl⟩
/-- x with its digits s places higher up, those that fall out coming in below -/
def rotl (x s : Nat) : Nat := (x * 2 ^ s % 4294967296) ||| (x / 2 ^ (32 - s))
theorem rotl_lt {x s : Nat} (hx : x < 4294967296) : rotl x s < 4294967296 := by
  unfold rotl
  have h1 : x * 2 ^ s % 4294967296 < 2 ^ 32 := Nat.mod_lt _ (by decide)
  have h2 : x / 2 ^ (32 - s) < 2 ^ 32 := Nat.lt_of_le_of_lt (Nat.div_le_self _ _) hx
  exact Nat.or_lt_two_pow h1 h2
theorem rotl_bits (x k : Nat) (hx : x < 4294967296) : bits .or .u32 ((x : Int) * 2 ^ k % 4294967296) ((x : Int) / 2 ^ (32 - k)) = (rotl x k : Nat) := by
  have h1 : x * 2 ^ k % 4294967296 < 4294967296 := Nat.mod_lt _ (by decide)
  have h2 : x / 2 ^ (32 - k) < 4294967296 := Nat.lt_of_le_of_lt (Nat.div_le_self _ _) hx
  have := u32_or_nat (x * 2 ^ k % 4294967296) (x / 2 ^ (32 - k)) h1 h2
  simpa [rotl] using this
set_option maxHeartbeats 400000 in
theorem rotate_any (x k : Nat) (w : World) (hx : x < 4294967296) (hk : k < 32) :
    Calls Tryz.prog 123 #[.int .u32 x, .int .i64 k] w fun e w' => e = .returned (.int .u32 (rotl x k : Nat)) ∧ w = w' := by
  have hm : bits .and .u64 (k : Int) 31 = (k : Int) := by
    have := u64_and_nat k 31 (by omega) (by omega)
    rw [show ((31 : Nat) : Int) = 31 from rfl] at this
    rw [this, nat_mask5, Nat.mod_eq_of_lt hk]
  go_enter Tryz.func123, Tryz.ntmps123
  go_wp2
  go_ret
  exact ⟨ret_int (rotl_bits x k hx), rfl⟩
set_option maxHeartbeats 400000 in
theorem wrot_any (x k : Nat) (w : World) (hx : x < 4294967296) (hk : k < 32) :
    Calls Tryz.prog 107 #[.int .i64 x, .int .i64 k] w fun e w' => e = .returned (.tuple #[.int .i64 (rotl x k : Nat), .bool true]) ∧ w.alloc (.cells #[.int .i64 x] 3) = w' := by
  have HI := Lib.hid (words_is (L := [x]) (by intro n hn; simp at hn; omega))
  have hr := rotl_lt (s := k) hx
  generalize hrr : rotl x k = r at hr ⊢
  have HRR := Lib.hid hrr
  clear hrr
  go_enter Tryz.func107, Tryz.ntmps107
  go_wp2_with fail
  refine (is_any (ints [x]) _ 1 1 _ (slr_new1 w x) (by omega)).mono ?_
  rintro e w1 ⟨rfl, rfl⟩
  rw [HI.out]
  go_wp2_with fail
  refine (rotate_any x k _ hx hk).mono ?_
  rintro e w2 ⟨rfl, rfl⟩
  rw [HRR.out]
  go_wp2_with fail
  go_ret2
  exact ⟨rfl, rfl⟩
set_option maxHeartbeats 400000 in
theorem dadd_any (L : List Nat) (A : Option Addr) (n c : Nat) (w : World) (hL : SlR encI 1 w w.heap.size A n (ints L)) (hn : n ≤ 140737488355328) (hw : words L) :
    Calls Tryz.prog 74 #[.slice A n c] w fun e w' => e = .returned (.int .i64 (sumW L : Nat)) ∧ w = w' := by
  go_enter Tryz.func74, Tryz.ntmps74
  go_wp2_with fail
  refine (wadd_any L A n c w hL hn hw).mono ?_
  rintro e w1 ⟨rfl, rfl⟩
  go_wp2_with fail
  go_ret
  exact ⟨rfl, rfl⟩
set_option maxHeartbeats 400000 in
theorem dand_any (a b : Nat) (w : World) (ha : a < 4294967296) (hb : b < 4294967296) :
    Calls Tryz.prog 77 #[.int .i64 a, .int .i64 b] w fun e w' => e = .returned (.int .i64 (a &&& b : Nat)) ∧ w.alloc (.cells #[.int .i64 a, .int .i64 b] 3) = w' := by
  go_enter Tryz.func77, Tryz.ntmps77
  go_wp2_with fail
  refine (wand_any a b w ha hb).mono ?_
  rintro e w1 ⟨rfl, rfl⟩
  go_wp2_with fail
  go_ret
  exact ⟨rfl, rfl⟩
set_option maxHeartbeats 400000 in
theorem dback_any (x k : Nat) (w : World) (hx : x < 4294967296) (hk : 1 ≤ k) (hk2 : k ≤ 32) :
    Calls Tryz.prog 76 #[.int .i64 x, .int .i64 k] w fun e w' => e = .returned (.int .i64 (rotl x (32 - k) : Nat)) ∧ w.alloc (.cells #[.int .i64 x] 3) = w' := by
  have hc : (32 : Int) - (k : Int) = ((32 - k : Nat) : Int) := by omega
  have HC := Lib.hid hc
  clear hc
  go_enter Tryz.func76, Tryz.ntmps76
  go_wp2_with fail
  rw [HC.out]
  refine (wrot_any x (32 - k) w hx (by omega)).mono ?_
  rintro e w1 ⟨rfl, rfl⟩
  go_wp2_with fail
  go_ret
  exact ⟨rfl, rfl⟩
theorem dfall_any (x k : Nat) (w : World) (hx : x < 4294967296) (hk : k ≤ 32) :
    Calls Tryz.prog 104 #[.int .i64 x, .int .i64 k] w fun e w' => e = .returned (.int .i64 (x / 2 ^ k : Nat)) ∧ w = w' := by
  go_enter Tryz.func104, Tryz.ntmps104
  go_wp2
  go_ret
  exact ⟨ret_int (by simp), rfl⟩
def xorW (L : List Nat) : Nat := L.foldl (fun s x => s ^^^ x) 0
theorem xorW_snoc {L : List Nat} {k x : Nat} (h : L[k]? = some x) : xorW (L.take (k + 1)) = xorW (L.take k) ^^^ x := by
  unfold xorW
  have : L.take (k + 1) = L.take k ++ [x] := by rw [List.take_add_one, h]; rfl
  rw [this, List.foldl_append]; rfl
theorem xorW_lt {L : List Nat} (h : words L) : xorW L < 4294967296 := by
  unfold xorW
  have : ∀ (M : List Nat) (a : Nat), a < 4294967296 → words M → M.foldl (fun s x => s ^^^ x) a < 4294967296 := by
    intro M
    induction M with
    | nil => intro a ha _; exact ha
    | cons x M ih =>
      intro a ha hM
      refine ih _ (Nat.xor_lt_two_pow (n := 32) ha (hM x (by simp))) (fun n hn => hM n (by simp [hn]))
  exact this L 0 (by decide) h
theorem words_take {L : List Nat} (h : words L) (k : Nat) : words (L.take k) := fun n hn => h n (List.mem_of_mem_take hn)
set_option maxHeartbeats 400000 in
theorem dxor_any (L : List Nat) (A : Option Addr) (n c : Nat) (w : World) (hL : SlR encI 1 w w.heap.size A n (ints L)) (hn : n ≤ 140737488355328) (hw : words L) (h0 : 0 < n) :
    Calls Tryz.prog 75 #[.slice A n c] w fun e w' => e = .returned (.int .i64 (xorW L : Nat)) ∧ Below w.heap.size w w' := by
  obtain ⟨hl, hA⟩ := hL
  have hl2 : L.length = n := by simpa [ints] using hl
  have HN := Lib.hid hl2
  have HW := Lib.hid hw
  obtain ⟨b, off, rfl, hb, hC⟩ := hA.resolve_left (by omega)
  have HC := Lib.hid hC
  clear hw hl hl2 hC hA
  go_enter Tryz.func75, Tryz.ntmps75
  go_wp2_with fail
  go_loopw [3, 8] (fun s i wr => ∃ k : Nat, k ≤ n ∧ i = .int .i64 k ∧ s = .int .i64 (xorW (L.take k) : Nat) ∧ Below w.heap.size w wr) (fun _ i _ => n - (intOf i).toNat)
  case atStart => exact ⟨0, Nat.zero_le _, rfl, rfl, Below.refl _ _⟩
  case round =>
    obtain ⟨k, hk, rfl, rfl, hB⟩ := hrel
    by_cases hlt : k < n
    · obtain ⟨x, hx⟩ : ∃ x, L[k]? = some x := ⟨L[k]'(by rw [HN.out]; exact hlt), List.getElem?_eq_getElem _⟩
      have c0 := (HC.out.below hB hb).int (ints_get hx)
      have hxw := HW.out x (List.mem_of_getElem? hx)
      have HS := Lib.hid (xorW_snoc hx)
      have hs := xorW_lt (words_take HW.out k)
      generalize xorW (L.take k) = s at HS hs ⊢
      clear hx
      go_wp2_with fail
      refine (wxor_any s x _ hs hxw).mono ?_
      rintro e w1 ⟨rfl, rfl⟩
      generalize hq : s ^^^ x = q at HS ⊢
      have HQ := Lib.hid hq
      have hql : q < 4294967296 := by rw [← hq]; exact Nat.xor_lt_two_pow (n := 32) hs hxw
      clear hq
      go_wp2_with fail
      go_roundw
      case rel => exact ⟨k + 1, by omega, by go_num, by rw [HS.out], by have := hB.size; go_grown⟩
      case measure => simp [intOf]; omega
    · obtain rfl : k = n := by omega
      go_wp2_with fail
      go_ret
      exact ⟨by rw [← HN.out, List.take_length]; rfl, hB⟩
end Go.Proofs.YtpkomloblhbkiaaGreatDoor
/- Rows of one's own that are one block of cells, a cell an element. -/
namespace Go.Proofs.YtpkomloblhbkiaaGreatDoor
open Go.RowKit
def vI (n : Int) : Value := .int .i64 n
theorem made_one (z : Value) (n : Nat) : madeCells #[z] n = (List.replicate n z).toArray := by
  apply Array.ext'
  rw [toList_madeCells_one]
/-- block g is a row of one's own, each element's cell f x -/
def Row {α : Type} (f : α → Value) (w : World) (g : Nat) (t : TypeId) (L : List α) : Prop := Blk w g t (L.map f).toArray
section
variable {α : Type} {f : α → Value} {w w' : World} {g : Nat} {t : TypeId} {L : List α}
theorem Row.lt (h : Row f w g t L) : g < w.heap.size := Blk.lt h
theorem Row.get (h : Row f w g t L) {k : Nat} {x : α} (hx : L[k]? = some x) : w.cell? ⟨g, k, none⟩ = some (f x) := by
  rw [Blk.cell h]; simp [hx]
theorem Row.free (h : Row f w g t L) (k : Nat) : w.frozen? ⟨g, k, none⟩ = false := Blk.frozen h k
theorem Row.below {B : Nat} (h : Row f w g t L) (hb : Below B w w') (hg : g < B) : Row f w' g t L := Blk.below h hb hg
theorem Row.far (h : Row f w g t L) {p : Addr} (hp : g ≠ p.block) (u : Value) : Row f (w.setCell p u) g t L := Blk.far h hp u
theorem Row.alloc (h : Row f w g t L) (o : Obj) : Row f (w.alloc o) g t L := Blk.alloc h o
theorem Row.set_ (h : Row f w g t L) (k : Nat) (x : α) : Row f (w.setCell ⟨g, k, none⟩ (f x)) g t (L.set k x) := by
  have := Blk.set_ h k (f x)
  unfold Row
  rw [List.map_set]
  simpa using this
theorem Row.new (w : World) (t : TypeId) (n : Nat) (x : α) : Row f (w.alloc (.cells (List.replicate n (f x)).toArray t)) w.heap.size t (List.replicate n x) := by
  unfold Row
  rw [List.map_replicate]
  exact Blk.new w t _
theorem Row.slr (h : Row f w g t L) {B : Nat} (hB : g < B) : SlR (fun x => [f x]) 1 w B (some ⟨g, 0, none⟩) L.length L := by
  refine SlR.ofC rfl hB ?_
  intro k x hx j v hv
  have hj : j = 0 := by
    have := (List.getElem?_eq_some_iff.1 hv).1
    simp at this; omega
  subst hj
  simp at hv
  subst hv
  have := Row.get h hx
  simpa using this
end
/-- make([]T, n), n a variable -/
theorem run_mkrow {P : Program} (t e : TypeId) (z : Value) (bytes : Nat) (ht : P.underlying t = some (.slice e)) (hinfo : (P.info? e).map (fun i => (i.zero, i.size, i.bytes)) = some (some z, 1, bytes)) (hz1 : z.cells = #[z])
    (n : Nat) (hbytes : bytes * n ≤ 281474976710656) (h63 : n ≤ 9223372036854775807) (w : World) :
    (Instr.makeSlice t (.int .i64 (n : Int)) (.int .i64 (n : Int))).run P w = .ok (.slice (some ⟨w.heap.size, 0, none⟩) n n) (w.alloc (.cells (List.replicate n z).toArray e)) := by
  have := run_make_row' (P := P) t e z bytes ht hinfo hz1 .i64 .i64 n hbytes h63 w
  rwa [made_one] at this
end Go.Proofs.YtpkomloblhbkiaaGreatDoor
/- word: Cut. -/
namespace Go.Proofs.YtpkomloblhbkiaaGreatDoor
open Go.RowKit
def belowW (h : Bool) (r : Nat) : Nat := if h then 24 - 8 * r else 8 * r
def byteAt (s : ByteArray) (i : Nat) : Nat := (s.data.toList.getD i 0).toNat
theorem byteAt_lt (s : ByteArray) (i : Nat) : byteAt s i < 256 := UInt8.toNat_lt _
theorem byteAt_get (s : ByteArray) (i : Nat) (h : i < s.size) : s[i].toNat = byteAt s i := by
  unfold byteAt
  have : s.data.toList[i]? = some s[i] := by
    rw [Array.getElem?_toList]
    exact Array.getElem?_eq_getElem h
  simp [List.getD, this]
/-- the words behind the first i bytes -/
def cutTo (s : ByteArray) (h : Bool) : Nat → List Nat
  | 0 => List.replicate (s.size / 4) 0
  | i + 1 => (cutTo s h i).set (i / 4) ((cutTo s h i).getD (i / 4) 0 ||| byteAt s i * 2 ^ belowW h (i % 4))
def cutW (s : ByteArray) (h : Bool) : List Nat := cutTo s h s.size
theorem cutTo_len (s : ByteArray) (h : Bool) (i : Nat) : (cutTo s h i).length = s.size / 4 := by
  induction i with
  | zero => simp [cutTo]
  | succ i ih => rw [cutTo, List.length_set, ih]
theorem cutTo_words (s : ByteArray) (h : Bool) (i : Nat) : words (cutTo s h i) := by
  induction i with
  | zero => intro n hn; rw [cutTo] at hn; rw [List.eq_of_mem_replicate hn]; decide
  | succ i ih =>
    intro n hn
    rw [cutTo] at hn
    rcases List.mem_or_eq_of_mem_set hn with hn | rfl
    · exact ih n hn
    · refine Nat.or_lt_two_pow (n := 32) ?_ ?_
      · rw [List.getD_eq_getElem?_getD]
        cases e : (cutTo s h i)[i / 4]? with
        | none => decide
        | some x => exact ih x (List.mem_of_getElem? e)
      · have h1 := byteAt_lt s i
        have h2 : belowW h (i % 4) ≤ 24 := by unfold belowW; split <;> omega
        have h3 : 2 ^ belowW h (i % 4) ≤ 2 ^ 24 := Nat.pow_le_pow_right (by decide) h2
        calc byteAt s i * 2 ^ belowW h (i % 4) ≤ 255 * 2 ^ 24 := Nat.mul_le_mul (by omega) h3
          _ < 2 ^ 32 := by decide
theorem places1_any (r : Int) (w : World) (h0 : 0 ≤ r) (h3 : r ≤ 3) : Calls Tryz.prog 109 #[.int .i64 r] w fun e w' => e = .returned (.int .i64 (24 - 8 * r)) ∧ w = w' := by
  go_enter Tryz.func109, Tryz.ntmps109
  go_wp2
  go_ret
  exact ⟨rfl, rfl⟩
theorem places2_any (r : Int) (w : World) (h0 : 0 ≤ r) (h3 : r ≤ 3) : Calls Tryz.prog 110 #[.int .i64 r] w fun e w' => e = .returned (.int .i64 (8 * r)) ∧ w = w' := by
  go_enter Tryz.func110, Tryz.ntmps110
  go_wp2
  go_ret
  exact ⟨rfl, rfl⟩
theorem ints_set (L : List Nat) (j x : Nat) : ints (L.set j x) = (ints L).set j (x : Int) := by simp [ints, List.map_set]
theorem places1_nat (r sh : Nat) (hr : r ≤ 3) (h : belowW true r = sh) (w : World) : Calls Tryz.prog 109 #[.int .i64 r] w fun e w' => e = .returned (.int .i64 sh) ∧ w = w' :=
  (places1_any r w (by omega) (by omega)).mono fun e w' ⟨he, hw⟩ => ⟨by rw [he]; refine ret_int ?_; rw [← h]; simp [belowW]; omega, hw⟩
theorem places2_nat (r sh : Nat) (hr : r ≤ 3) (h : belowW false r = sh) (w : World) : Calls Tryz.prog 110 #[.int .i64 r] w fun e w' => e = .returned (.int .i64 sh) ∧ w = w' :=
  (places2_any r w (by omega) (by omega)).mono fun e w' ⟨he, hw⟩ => ⟨by rw [he]; refine ret_int ?_; rw [← h]; simp [belowW], hw⟩
set_option maxHeartbeats 1000000 in
theorem cut_high (s : ByteArray) (w : World) (hs : s.size % 4 = 0) (hmax : s.size ≤ 140737488355328) :
    Calls Tryz.prog 99 #[.string s, .bool true] w fun e w' => ∃ g, e = .returned (.tuple #[.slice (some ⟨g, 0, none⟩) (s.size / 4) (s.size / 4), .bool true]) ∧ Row vI w' g 3 (ints (cutW s true)) ∧ w.heap.size ≤ g ∧ Below w.heap.size w w' := by
  have hmk := fun W => run_mkrow (P := Tryz.prog) 29 3 (.int .i64 0) 8 Tryz.underlying29 int_info3 rfl (s.size / 4) (by omega) (by omega) W
  obtain ⟨m, hme⟩ : ∃ m, s.size / 4 = m := ⟨_, rfl⟩
  rw [hme] at hmk ⊢
  have h0 : (s.size : Int) % 4 = 0 := by omega
  have h1 : (s.size : Int) / 4 = (m : Int) := by omega
  have HME := Lib.hid hme
  have H0 := Lib.hid hs
  clear hs hme
  go_enter Tryz.func99, Tryz.ntmps99
  go_wp2
  clear hmk h0 h1
  have hR0 : Row vI (w.alloc (.cells (List.replicate m (Value.int .i64 0)).toArray 3)) w.heap.size 3 (ints (cutTo s true 0)) := by
    have := Row.new (f := vI) w 3 m 0
    simpa [vI, ints, cutTo, HME.out] using this
  go_loopw [21] (fun iv wr => ∃ i : Nat, i ≤ s.size ∧ iv = .int .i64 i ∧ Below w.heap.size w wr ∧ Hid (Row vI wr w.heap.size 3 (ints (cutTo s true i)))) (fun iv _ => s.size - (intOf iv).toNat)
  case atStart => exact ⟨0, Nat.zero_le _, rfl, by go_grown, hR0⟩
  case round =>
    obtain ⟨i, hi, rfl, hB, HR⟩ := hrel
    clear hR0
    by_cases hlt : i < s.size
    · obtain ⟨j, hje⟩ : ∃ j, i / 4 = j := ⟨_, rfl⟩
      have hj : j < m := by have := H0.out; have := HME.out; omega
      have hlen : j < (cutTo s true i).length := by rw [cutTo_len, HME.out]; exact hj
      have hget : (cutTo s true i)[j]? = some ((cutTo s true i)[j]'hlen) := List.getElem?_eq_getElem hlen
      have hold := cutTo_words s true i _ (List.mem_of_getElem? hget)
      have hgd : (cutTo s true i).getD j 0 = (cutTo s true i)[j]'hlen := by rw [List.getD_eq_getElem?_getD, hget]; rfl
      have c0 := HR.out.get (ints_get hget)
      have cf := HR.out.free j
      simp only [vI] at c0
      generalize (cutTo s true i)[j]'hlen = old at hold hgd c0
      have hbg := byteAt_get s i hlt
      have hbl := byteAt_lt s i
      have hbs : s[i].toNat < 256 := by rw [hbg]; exact hbl
      clear hget hlen
      obtain ⟨r, hre⟩ : ∃ r, i % 4 = r := ⟨_, rfl⟩
      obtain ⟨sh, hshe⟩ : ∃ sh, belowW true r = sh := ⟨_, rfl⟩
      have hr4 : r ≤ 3 := by omega
      have hsh : sh ≤ 24 := by rw [← hshe]; unfold belowW; split <;> omega
      have hq : (i : Int) / 4 = (j : Int) := by omega
      have hm : (i : Int) % 4 = (r : Int) := by omega
      have hp : 2 ^ sh ≤ 2 ^ 24 := Nat.pow_le_pow_right (by decide) hsh
      have hbp : byteAt s i * 2 ^ sh ≤ 255 * 2 ^ 24 := Nat.mul_le_mul (by omega) hp
      have hb0 := i64_or_nat old (byteAt s i * 2 ^ sh) (by omega) (by omega)
      have hcast : ((byteAt s i * 2 ^ sh : Nat) : Int) = (s[i].toNat : Int) * 2 ^ sh := by rw [← hbg]; simp
      rw [hcast] at hb0
      have hw0 : IntKind.i64.wrap ((s[i].toNat : Int) * 2 ^ sh) = (s[i].toNat : Int) * 2 ^ sh := by
        rw [← hcast]; exact IntWalk.i64_in _ (by omega)
      have HS0 : cutTo s true (i + 1) = (cutTo s true i).set j (old ||| byteAt s i * 2 ^ sh) := by
        rw [cutTo, hje, hgd, hre, hshe]
      obtain ⟨new, hnew⟩ : ∃ x, old ||| byteAt s i * 2 ^ sh = x := ⟨_, rfl⟩
      rw [hnew] at hb0 HS0
      have HS := Lib.hid HS0
      have hv : bits .or .i64 (old : Int) (wrap64 (wrap64 (s[i].toNat : Int) * 2 ^ sh)) = (new : Int) := by
        rw [IntWalk.wrap64_in (s[i].toNat : Int) ⟨by omega, by omega⟩, IntWalk.wrap64_in _ ⟨by rw [← hcast]; omega, by rw [← hcast]; omega⟩]
        exact hb0
      have HV := Lib.hid hv
      have HP := Lib.hid (places1_nat r sh hr4 hshe)
      have q1 : (i : Int).tdiv 4 = (j : Int) := by rw [Int.tdiv_eq_ediv_of_nonneg (by omega)]; exact hq
      have q2 : IntKind.i64.wrap (j : Int) = (j : Int) := IntWalk.i64_in _ (by omega)
      have q3 : (i : Int).tmod 4 = (r : Int) := by rw [Int.tmod_eq_emod_of_nonneg (by omega)]; exact hm
      have i0 : (0 : Int) ≤ (j : Int) := by omega
      have i1 : (j : Int) < (m : Int) := by omega
      have i2 : (0 : Int) ≤ (i : Int) := by omega
      have i3 : (i : Int) < (s.size : Int) := by omega
      clear hb0 hw0 hv hbp hp hcast HS0 hnew hre hshe hgd hbg hbl hje hbs hold
      go_wp2_with fail
      go_region_with ((go_at_call 109; refine (HP.out _).mono ?_; rintro e w' ⟨rfl, rfl⟩))
      all_goals
        go_wp2_with fail
        go_roundw
        case rel =>
          (repeat apply Exists.intro)
          refine ⟨⟨i + 1, by omega, by go_num, by have := hB; go_grown, ?_⟩, rfl⟩
          have := HR.out.set_ j (new : Int)
          rw [← ints_set] at this
          rw [HS.out]
          refine Lib.hid ?_
          rw [HV.out]
          exact this
        case measure => simp [intOf]; omega
    · obtain rfl : i = s.size := by omega
      go_wp2
      go_ret2
      exact ⟨w.heap.size, rfl, HR.out, Nat.le_refl _, hB⟩
set_option maxHeartbeats 1000000 in
theorem cut_low (s : ByteArray) (w : World) (hs : s.size % 4 = 0) (hmax : s.size ≤ 140737488355328) :
    Calls Tryz.prog 99 #[.string s, .bool false] w fun e w' => ∃ g, e = .returned (.tuple #[.slice (some ⟨g, 0, none⟩) (s.size / 4) (s.size / 4), .bool true]) ∧ Row vI w' g 3 (ints (cutW s false)) ∧ w.heap.size ≤ g ∧ Below w.heap.size w w' := by
  have hmk := fun W => run_mkrow (P := Tryz.prog) 29 3 (.int .i64 0) 8 Tryz.underlying29 int_info3 rfl (s.size / 4) (by omega) (by omega) W
  obtain ⟨m, hme⟩ : ∃ m, s.size / 4 = m := ⟨_, rfl⟩
  rw [hme] at hmk ⊢
  have h0 : (s.size : Int) % 4 = 0 := by omega
  have h1 : (s.size : Int) / 4 = (m : Int) := by omega
  have HME := Lib.hid hme
  have H0 := Lib.hid hs
  clear hs hme
  go_enter Tryz.func99, Tryz.ntmps99
  go_wp2
  clear hmk h0 h1
  have hR0 : Row vI (w.alloc (.cells (List.replicate m (Value.int .i64 0)).toArray 3)) w.heap.size 3 (ints (cutTo s false 0)) := by
    have := Row.new (f := vI) w 3 m 0
    simpa [vI, ints, cutTo, HME.out] using this
  go_loopw [21] (fun iv wr => ∃ i : Nat, i ≤ s.size ∧ iv = .int .i64 i ∧ Below w.heap.size w wr ∧ Hid (Row vI wr w.heap.size 3 (ints (cutTo s false i)))) (fun iv _ => s.size - (intOf iv).toNat)
  case atStart => exact ⟨0, Nat.zero_le _, rfl, by go_grown, hR0⟩
  case round =>
    obtain ⟨i, hi, rfl, hB, HR⟩ := hrel
    clear hR0
    by_cases hlt : i < s.size
    · obtain ⟨j, hje⟩ : ∃ j, i / 4 = j := ⟨_, rfl⟩
      have hj : j < m := by have := H0.out; have := HME.out; omega
      have hlen : j < (cutTo s false i).length := by rw [cutTo_len, HME.out]; exact hj
      have hget : (cutTo s false i)[j]? = some ((cutTo s false i)[j]'hlen) := List.getElem?_eq_getElem hlen
      have hold := cutTo_words s false i _ (List.mem_of_getElem? hget)
      have hgd : (cutTo s false i).getD j 0 = (cutTo s false i)[j]'hlen := by rw [List.getD_eq_getElem?_getD, hget]; rfl
      have c0 := HR.out.get (ints_get hget)
      have cf := HR.out.free j
      simp only [vI] at c0
      generalize (cutTo s false i)[j]'hlen = old at hold hgd c0
      have hbg := byteAt_get s i hlt
      have hbl := byteAt_lt s i
      have hbs : s[i].toNat < 256 := by rw [hbg]; exact hbl
      clear hget hlen
      obtain ⟨r, hre⟩ : ∃ r, i % 4 = r := ⟨_, rfl⟩
      obtain ⟨sh, hshe⟩ : ∃ sh, belowW false r = sh := ⟨_, rfl⟩
      have hr4 : r ≤ 3 := by omega
      have hsh : sh ≤ 24 := by rw [← hshe]; unfold belowW; split <;> omega
      have hq : (i : Int) / 4 = (j : Int) := by omega
      have hm : (i : Int) % 4 = (r : Int) := by omega
      have hp : 2 ^ sh ≤ 2 ^ 24 := Nat.pow_le_pow_right (by decide) hsh
      have hbp : byteAt s i * 2 ^ sh ≤ 255 * 2 ^ 24 := Nat.mul_le_mul (by omega) hp
      have hb0 := i64_or_nat old (byteAt s i * 2 ^ sh) (by omega) (by omega)
      have hcast : ((byteAt s i * 2 ^ sh : Nat) : Int) = (s[i].toNat : Int) * 2 ^ sh := by rw [← hbg]; simp
      rw [hcast] at hb0
      have hw0 : IntKind.i64.wrap ((s[i].toNat : Int) * 2 ^ sh) = (s[i].toNat : Int) * 2 ^ sh := by
        rw [← hcast]; exact IntWalk.i64_in _ (by omega)
      have HS0 : cutTo s false (i + 1) = (cutTo s false i).set j (old ||| byteAt s i * 2 ^ sh) := by
        rw [cutTo, hje, hgd, hre, hshe]
      obtain ⟨new, hnew⟩ : ∃ x, old ||| byteAt s i * 2 ^ sh = x := ⟨_, rfl⟩
      rw [hnew] at hb0 HS0
      have HS := Lib.hid HS0
      have hv : bits .or .i64 (old : Int) (wrap64 (wrap64 (s[i].toNat : Int) * 2 ^ sh)) = (new : Int) := by
        rw [IntWalk.wrap64_in (s[i].toNat : Int) ⟨by omega, by omega⟩, IntWalk.wrap64_in _ ⟨by rw [← hcast]; omega, by rw [← hcast]; omega⟩]
        exact hb0
      have HV := Lib.hid hv
      have HP := Lib.hid (places2_nat r sh hr4 hshe)
      have q1 : (i : Int).tdiv 4 = (j : Int) := by rw [Int.tdiv_eq_ediv_of_nonneg (by omega)]; exact hq
      have q2 : IntKind.i64.wrap (j : Int) = (j : Int) := IntWalk.i64_in _ (by omega)
      have q3 : (i : Int).tmod 4 = (r : Int) := by rw [Int.tmod_eq_emod_of_nonneg (by omega)]; exact hm
      have i0 : (0 : Int) ≤ (j : Int) := by omega
      have i1 : (j : Int) < (m : Int) := by omega
      have i2 : (0 : Int) ≤ (i : Int) := by omega
      have i3 : (i : Int) < (s.size : Int) := by omega
      clear hb0 hw0 hv hbp hp hcast HS0 hnew hre hshe hgd hbg hbl hje hbs hold
      go_wp2_with fail
      go_region_with ((go_at_call 110; refine (HP.out _).mono ?_; rintro e w' ⟨rfl, rfl⟩))
      all_goals
        go_wp2_with fail
        go_roundw
        case rel =>
          (repeat apply Exists.intro)
          refine ⟨⟨i + 1, by omega, by go_num, by have := hB; go_grown, ?_⟩, rfl⟩
          have := HR.out.set_ j (new : Int)
          rw [← ints_set] at this
          rw [HS.out]
          refine Lib.hid ?_
          rw [HV.out]
          exact this
        case measure => simp [intOf]; omega
    · obtain rfl : i = s.size := by omega
      go_wp2
      go_ret2
      exact ⟨w.heap.size, rfl, HR.out, Nat.le_refl _, hB⟩
end Go.Proofs.YtpkomloblhbkiaaGreatDoor
/- word: Join. -/
namespace Go.Proofs.YtpkomloblhbkiaaGreatDoor
open Go.RowKit
def joinByte (L : List Nat) (h : Bool) (i : Nat) : Nat := L.getD (i / 4) 0 / 2 ^ belowW h (i % 4) % 256
/-- the bytes behind i rounds -/
def bytesTo (L : List Nat) (h : Bool) (i : Nat) : List UInt8 := (List.range (4 * L.length)).map fun t => if t < i then UInt8.ofNat (joinByte L h t) else 0
def joinW (L : List Nat) (h : Bool) : ByteArray := ⟨((List.range (4 * L.length)).map fun t => UInt8.ofNat (joinByte L h t)).toArray⟩
theorem bytesTo_len (L : List Nat) (h : Bool) (i : Nat) : (bytesTo L h i).length = 4 * L.length := by simp [bytesTo]
theorem bytesTo_zero (L : List Nat) (h : Bool) : bytesTo L h 0 = List.replicate (4 * L.length) 0 := by
  unfold bytesTo
  apply List.ext_getElem
  · simp
  · intro n h1 h2; simp
theorem bytesTo_all (L : List Nat) (h : Bool) : bytesTo L h (4 * L.length) = (joinW L h).data.toList := by
  unfold bytesTo joinW
  show _ = (List.map _ _)
  apply List.map_congr_left
  intro t ht
  rw [if_pos (List.mem_range.1 ht)]
theorem bytesTo_succ (L : List Nat) (h : Bool) (i : Nat) : bytesTo L h (i + 1) = (bytesTo L h i).set i (UInt8.ofNat (joinByte L h i)) := by
  unfold bytesTo
  apply List.ext_getElem
  · simp
  · intro n h1 h2
    rw [List.getElem_set]
    simp only [List.getElem_map, List.getElem_range]
    by_cases e : i = n
    · subst e; simp
    · rw [if_neg e]
      by_cases hl : n < i
      · rw [if_pos hl, if_pos (by omega)]
      · rw [if_neg hl, if_neg (by omega)]
theorem joinW_size (L : List Nat) (h : Bool) : (joinW L h).size = 4 * L.length := by
  show (joinW L h).data.size = _
  unfold joinW
  simp
set_option maxHeartbeats 1000000 in
theorem join_high (L : List Nat) (A : Option Addr) (n c : Nat) (w : World) (hL : SlR encI 1 w w.heap.size A n (ints L)) (hn : n ≤ 1000000) (hw : words L) (hpos : 0 < n) :
    Calls Tryz.prog 39 #[.slice A n c, .bool true] w fun e w' => e = .returned (.tuple #[.string (joinW L true), .bool true]) ∧ Below w.heap.size w w' := by
  have HI := Lib.hid (words_is hw)
  have HL := Lib.hid hL
  have HW := Lib.hid hw
  obtain ⟨hl, hA⟩ := hL
  have hl2 : L.length = n := by simpa [ints] using hl
  obtain ⟨b, off, rfl, hb, hC⟩ := hA.resolve_left (by omega)
  have HN := Lib.hid hl2
  have HC := Lib.hid hC
  obtain ⟨m, hme⟩ : ∃ m, 4 * n = m := ⟨_, rfl⟩
  have hmk := fun W => run_mkrow (P := Tryz.prog) 113 5 (.int .u8 0) 1 Tryz.underlying113 byte_info rfl m (by omega) (by omega) W
  have h1 : 4 * (n : Int) = (m : Int) := by omega
  have HM := Lib.hid hme
  generalize hjo : joinW L true = out
  have HJO := Lib.hid hjo
  clear hjo
  clear hw hl hl2 hC hA hme
  go_enter Tryz.func39, Tryz.ntmps39
  go_wp2_with fail
  refine (is_any (ints L) _ n c w HL.out (by omega)).mono ?_
  rintro e w1 ⟨rfl, rfl⟩
  rw [HI.out]
  go_wp2
  clear hmk h1
  have hR0 : Row vB (w.alloc (.cells (List.replicate m (Value.int .u8 0)).toArray 5)) w.heap.size 5 (bytesTo L true 0) := by
    have := Row.new (f := vB) w 5 m 0
    rw [bytesTo_zero, HN.out, HM.out]
    simpa [vB] using this
  go_loopw [20] (fun iv wr => ∃ i : Nat, i ≤ m ∧ iv = .int .i64 i ∧ Below w.heap.size w wr ∧ Hid (Row vB wr w.heap.size 5 (bytesTo L true i))) (fun iv _ => m - (intOf iv).toNat)
  case atStart => exact ⟨0, Nat.zero_le _, rfl, by go_grown, hR0⟩
  case round =>
    obtain ⟨i, hi, rfl, hB, HR⟩ := hrel
    clear hR0
    by_cases hlt : i < m
    · obtain ⟨j, hje⟩ : ∃ j, i / 4 = j := ⟨_, rfl⟩
      have hj : j < n := by have := HM.out; omega
      obtain ⟨x, hx⟩ : ∃ x, L[j]? = some x := ⟨L[j]'(by rw [HN.out]; exact hj), List.getElem?_eq_getElem _⟩
      have hxw := HW.out x (List.mem_of_getElem? hx)
      have x0 := (HC.out.below hB hb).int (ints_get hx)
      have c0 := HR.out.get (k := i) (List.getElem?_eq_getElem (by rw [bytesTo_len, HN.out]; have := HM.out; omega))
      simp only [vB] at c0
      generalize (bytesTo L true i)[i]'_ = old at c0
      have cf := HR.out.free i
      obtain ⟨r, hre⟩ : ∃ r, i % 4 = r := ⟨_, rfl⟩
      obtain ⟨sh, hshe⟩ : ∃ sh, belowW true r = sh := ⟨_, rfl⟩
      have hr4 : r ≤ 3 := by omega
      have hsh : sh ≤ 24 := by rw [← hshe]; unfold belowW; split <;> omega
      have hq : (i : Int) / 4 = (j : Int) := by omega
      have hm : (i : Int) % 4 = (r : Int) := by omega
      have hjb : joinByte L true i = x / 2 ^ sh % 256 := by
        unfold joinByte
        rw [hje, hre, hshe]
        simp [List.getD, hx]
      have HP := Lib.hid (places1_nat r sh hr4 hshe)
      have HS := Lib.hid (bytesTo_succ L true i)
      have HV := Lib.hid (show Value.int .u8 ((x : Int) / 2 ^ sh % 256) = vB (UInt8.ofNat (joinByte L true i)) by
        unfold vB
        rw [hjb]
        have : (UInt8.ofNat (x / 2 ^ sh % 256)).toNat = x / 2 ^ sh % 256 := by simp
        rw [this]
        simp)
      have q1 : (i : Int).tdiv 4 = (j : Int) := by rw [Int.tdiv_eq_ediv_of_nonneg (by omega)]; exact hq
      have q2 : IntKind.i64.wrap (j : Int) = (j : Int) := IntWalk.i64_in _ (by omega)
      have q3 : (i : Int).tmod 4 = (r : Int) := by rw [Int.tmod_eq_emod_of_nonneg (by omega)]; exact hm
      have i0 : (0 : Int) ≤ (j : Int) := by omega
      have i1 : (j : Int) < (n : Int) := by omega
      have i2 : (0 : Int) ≤ (i : Int) := by omega
      have i3 : (i : Int) < (m : Int) := by omega
      clear hre hshe hje hx hjb
      go_wp2_with fail
      go_region_with ((go_at_call 109; refine (HP.out _).mono ?_; rintro e w' ⟨rfl, rfl⟩))
      all_goals
        go_wp2_with fail
        go_roundw
        case rel =>
          (repeat apply Exists.intro)
          refine ⟨⟨i + 1, by omega, by go_num, by have := hB; go_grown, ?_⟩, rfl⟩
          have := HR.out.set_ i (UInt8.ofNat (joinByte L true i))
          rw [HS.out]
          refine Lib.hid ?_
          rw [HV.out]
          exact this
        case measure => simp [intOf]; omega
    · obtain rfl : i = m := by omega
      have hcv := run_convert_bytes_back wr 113 9 5 ⟨w.heap.size, 0, none⟩ i (joinW L true).data.toList Tryz.underlying113 Tryz.underlying5 Tryz.underlying9 (fun j hj => by
        have h2 := HR.out
        rw [← HM.out, ← HN.out, bytesTo_all] at h2
        have := h2.get (k := j) (List.getElem?_eq_getElem hj)
        rw [Addr.add_lit, Nat.zero_add, this]; rfl)
      have hsz : (joinW L true).data.toList.length = i := by rw [← HM.out, ← HN.out]; have := joinW_size L true; simpa using this
      rw [hsz] at hcv
      simp only [Array.toArray_toList] at hcv
      rw [HJO.out] at hcv
      clear hsz
      go_wp2
      go_ret2
      exact ⟨rfl, hB⟩
set_option maxHeartbeats 1000000 in
theorem join_low (L : List Nat) (A : Option Addr) (n c : Nat) (w : World) (hL : SlR encI 1 w w.heap.size A n (ints L)) (hn : n ≤ 1000000) (hw : words L) (hpos : 0 < n) :
    Calls Tryz.prog 39 #[.slice A n c, .bool false] w fun e w' => e = .returned (.tuple #[.string (joinW L false), .bool true]) ∧ Below w.heap.size w w' := by
  have HI := Lib.hid (words_is hw)
  have HL := Lib.hid hL
  have HW := Lib.hid hw
  obtain ⟨hl, hA⟩ := hL
  have hl2 : L.length = n := by simpa [ints] using hl
  obtain ⟨b, off, rfl, hb, hC⟩ := hA.resolve_left (by omega)
  have HN := Lib.hid hl2
  have HC := Lib.hid hC
  obtain ⟨m, hme⟩ : ∃ m, 4 * n = m := ⟨_, rfl⟩
  have hmk := fun W => run_mkrow (P := Tryz.prog) 113 5 (.int .u8 0) 1 Tryz.underlying113 byte_info rfl m (by omega) (by omega) W
  have h1 : 4 * (n : Int) = (m : Int) := by omega
  have HM := Lib.hid hme
  generalize hjo : joinW L false = out
  have HJO := Lib.hid hjo
  clear hjo
  clear hw hl hl2 hC hA hme
  go_enter Tryz.func39, Tryz.ntmps39
  go_wp2_with fail
  refine (is_any (ints L) _ n c w HL.out (by omega)).mono ?_
  rintro e w1 ⟨rfl, rfl⟩
  rw [HI.out]
  go_wp2
  clear hmk h1
  have hR0 : Row vB (w.alloc (.cells (List.replicate m (Value.int .u8 0)).toArray 5)) w.heap.size 5 (bytesTo L false 0) := by
    have := Row.new (f := vB) w 5 m 0
    rw [bytesTo_zero, HN.out, HM.out]
    simpa [vB] using this
  go_loopw [20] (fun iv wr => ∃ i : Nat, i ≤ m ∧ iv = .int .i64 i ∧ Below w.heap.size w wr ∧ Hid (Row vB wr w.heap.size 5 (bytesTo L false i))) (fun iv _ => m - (intOf iv).toNat)
  case atStart => exact ⟨0, Nat.zero_le _, rfl, by go_grown, hR0⟩
  case round =>
    obtain ⟨i, hi, rfl, hB, HR⟩ := hrel
    clear hR0
    by_cases hlt : i < m
    · obtain ⟨j, hje⟩ : ∃ j, i / 4 = j := ⟨_, rfl⟩
      have hj : j < n := by have := HM.out; omega
      obtain ⟨x, hx⟩ : ∃ x, L[j]? = some x := ⟨L[j]'(by rw [HN.out]; exact hj), List.getElem?_eq_getElem _⟩
      have hxw := HW.out x (List.mem_of_getElem? hx)
      have x0 := (HC.out.below hB hb).int (ints_get hx)
      have c0 := HR.out.get (k := i) (List.getElem?_eq_getElem (by rw [bytesTo_len, HN.out]; have := HM.out; omega))
      simp only [vB] at c0
      generalize (bytesTo L false i)[i]'_ = old at c0
      have cf := HR.out.free i
      obtain ⟨r, hre⟩ : ∃ r, i % 4 = r := ⟨_, rfl⟩
      obtain ⟨sh, hshe⟩ : ∃ sh, belowW false r = sh := ⟨_, rfl⟩
      have hr4 : r ≤ 3 := by omega
      have hsh : sh ≤ 24 := by rw [← hshe]; unfold belowW; split <;> omega
      have hq : (i : Int) / 4 = (j : Int) := by omega
      have hm : (i : Int) % 4 = (r : Int) := by omega
      have hjb : joinByte L false i = x / 2 ^ sh % 256 := by
        unfold joinByte
        rw [hje, hre, hshe]
        simp [List.getD, hx]
      have HP := Lib.hid (places2_nat r sh hr4 hshe)
      have HS := Lib.hid (bytesTo_succ L false i)
      have HV := Lib.hid (show Value.int .u8 ((x : Int) / 2 ^ sh % 256) = vB (UInt8.ofNat (joinByte L false i)) by
        unfold vB
        rw [hjb]
        have : (UInt8.ofNat (x / 2 ^ sh % 256)).toNat = x / 2 ^ sh % 256 := by simp
        rw [this]
        simp)
      have q1 : (i : Int).tdiv 4 = (j : Int) := by rw [Int.tdiv_eq_ediv_of_nonneg (by omega)]; exact hq
      have q2 : IntKind.i64.wrap (j : Int) = (j : Int) := IntWalk.i64_in _ (by omega)
      have q3 : (i : Int).tmod 4 = (r : Int) := by rw [Int.tmod_eq_emod_of_nonneg (by omega)]; exact hm
      have i0 : (0 : Int) ≤ (j : Int) := by omega
      have i1 : (j : Int) < (n : Int) := by omega
      have i2 : (0 : Int) ≤ (i : Int) := by omega
      have i3 : (i : Int) < (m : Int) := by omega
      clear hre hshe hje hx hjb
      go_wp2_with fail
      go_region_with ((go_at_call 110; refine (HP.out _).mono ?_; rintro e w' ⟨rfl, rfl⟩))
      all_goals
        go_wp2_with fail
        go_roundw
        case rel =>
          (repeat apply Exists.intro)
          refine ⟨⟨i + 1, by omega, by go_num, by have := hB; go_grown, ?_⟩, rfl⟩
          have := HR.out.set_ i (UInt8.ofNat (joinByte L false i))
          rw [HS.out]
          refine Lib.hid ?_
          rw [HV.out]
          exact this
        case measure => simp [intOf]; omega
    · obtain rfl : i = m := by omega
      have hcv := run_convert_bytes_back wr 113 9 5 ⟨w.heap.size, 0, none⟩ i (joinW L false).data.toList Tryz.underlying113 Tryz.underlying5 Tryz.underlying9 (fun j hj => by
        have h2 := HR.out
        rw [← HM.out, ← HN.out, bytesTo_all] at h2
        have := h2.get (k := j) (List.getElem?_eq_getElem hj)
        rw [Addr.add_lit, Nat.zero_add, this]; rfl)
      have hsz : (joinW L false).data.toList.length = i := by rw [← HM.out, ← HN.out]; have := joinW_size L false; simpa using this
      rw [hsz] at hcv
      simp only [Array.toArray_toList] at hcv
      rw [HJO.out] at hcv
      clear hsz
      go_wp2
      go_ret2
      exact ⟨rfl, hB⟩
end Go.Proofs.YtpkomloblhbkiaaGreatDoor
namespace Go.Proofs.YtpkomloblhbkiaaGreatDoor
open Go.RowKit
/-- v is a row of one's own, from block base on, that holds the bytes L -/
def BRow (w : World) (base : Nat) (v : Value) (L : List UInt8) : Prop := w.ownsRow base 5 1 v L.length (L.map vB)
section
variable {w w' : World} {base : Nat} {v : Value} {L : List UInt8}
theorem brow_new (w : World) {W : World} {g : Nat} (hb : base ≤ g) (L : List UInt8) (hW : Blk W g 5 (L.map vB).toArray) (hl : L.length ≤ 140737488355328) : BRow W base (.slice (some ⟨g, 0, none⟩) L.length L.length) L := by
  refine ⟨by simp, .inr ⟨g, L.length, _, rfl, hb, hW, Nat.le_refl _, by simp only [maxLen]; omega, by simp, ?_⟩⟩
  rw [Nat.mul_one]
  exact List.take_of_length_le (by simp)
theorem brow_alloc (h : BRow w base v L) (o : Obj) : BRow (w.alloc o) base v L := World.ownsRow.alloc h o
theorem brow_form (h : BRow w base v L) : ∃ A c, v = .slice A L.length c := by
  obtain ⟨A, c, hv, _⟩ := own_form h
  exact ⟨A, c, hv⟩
/-- string(b) -/
theorem run_brow {P : Program} (src dst e : TypeId) (hs : P.underlying src = some (.slice e)) (he : P.underlying e = some (.int .u8)) (hd : P.underlying dst = some .string) {A : Option Addr} {n c : Nat} (hn : L.length = n)
    (h : BRow w base (.slice A n c) L) : (convert src dst (.slice A n c)).run P w = .ok (.string ⟨L.toArray⟩) w := by
  subst hn
  rcases h.2 with ⟨hv, h0⟩ | ⟨g, cap, cur, hv, _, hg, _⟩
  · obtain rfl : L = [] := List.eq_nil_of_length_eq_zero h0
    injection hv with hA
    subst hA
    rw [run_convert_bytes_string w src dst e none _ c hs he hd]
    rfl
  · have hA : A = some ⟨g, 0, none⟩ := by injection hv
    subst hA
    refine run_convert_bytes_back w src dst e ⟨g, 0, none⟩ c L hs he hd fun j hj => ?_
    exact h.cells (g := g) rfl j _ (by rw [List.getElem?_map, List.getElem?_eq_getElem hj]; rfl)
theorem brow_join {m : Nat} {xs : List Value} (h : w.ownsRow base 5 1 v m xs) (M : List UInt8) (hm : m = M.length) (hx : xs = M.map vB) : BRow w base v M := by subst hm hx; exact h
theorem wpList_append_byte {ops : Array Oper} {rest : List Oper} {o : Oper} {a : Act} {Q : Exit → Act → World → Prop} (hgd : o.guard = none) (s x : Operand)
    (ho : o.op = .call { callee := .builtin .append, args := #[s, x], argTypes := #[113, 113] })
    (hs : a.eval s = v) (hown : BRow w base v L) (g : Nat) (b : UInt8) (u : Value) (hx : a.eval x = .slice (some ⟨g, 0, none⟩) 1 1) (hB : Blk w g 5 #[u]) (hu : u = vB b) (n : Nat) (hl : L.length = n) (L' : List UInt8) (hL : L ++ [b] = L') (hn : n + 1 ≤ 140737488355328) (hbase : base ≤ w.heap.size)
    (h : ∀ A c w', Hid (BRow w' base (.slice A (n + 1) c) L') → w.grownBy w' v.ownBlock → Below base w w' → wpList Tryz.prog ops Q rest (a.put o.dst (.slice A (n + 1) c)) w') : wpList Tryz.prog ops Q (o :: rest) a w := by
  subst hu hL
  obtain ⟨i0, hi0, hz0, hz1, hz2⟩ := info_parts byte_info
  refine wpList_append_any _ hgd s x _ ho base _ i0 _ 1 1 Tryz.underlying113 hi0 hz0 hz1 hz2 rfl (by omega) v L.length (L.map vB) hs hown (g + 1) (some ⟨g, 0, none⟩) 1 1 [vB b] hx ?_ (by simp [vB, Value.oneCell']) (by simp only [maxLen]; omega) (by omega) hbase ?_
  · refine ⟨rfl, fun _ => ⟨_, rfl, by simp, fun j u hu => ?_⟩⟩
    have hadd : (⟨g, 0, none⟩ : Addr).add j = ⟨g, j, none⟩ := by unfold Addr.add; split <;> simp_all
    rw [hadd, hB.cell]
    simpa using hu
  · intro v' w' h1 h2 _
    have h1' : BRow w' base v' (L ++ [b]) := brow_join h1 _ (by simp) (by simp)
    obtain ⟨A, c, rfl⟩ := brow_form h1'
    have hn1 : (L ++ [b]).length = n + 1 := by simp [hl]
    rw [hn1] at h1' ⊢
    exact h A c w' (Lib.hid h1') h2 ((Below.refl base w).grown h2 hbase (fun k e => (World.ownsRow.lt hown k e).1))
end
end Go.Proofs.YtpkomloblhbkiaaGreatDoor
