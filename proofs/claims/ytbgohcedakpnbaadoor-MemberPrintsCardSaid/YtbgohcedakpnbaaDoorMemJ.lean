/- member: the pledge that digits tell. -/
import Derived.Test.YtbgohcedakpnbaaDoorMemH
import Derived.Test.YtbgohcedakpnbaaDoorRow
import Derived.Laws.IdiomStrings
import Derived.Test.YtbgohcedakpnbaaDoorTurnN
import Derived.Test.YtbgohcedakpnbaaDoorKeep
import Derived.LoopIn
import Derived.Test.YtbgohcedakpnbaaDoorStrs
import Derived.Test.YtbgohcedakpnbaaDoorMemE
import Derived.RangeFuncLeaves
import Derived.Maps.OwnIn
import Derived.Test.YtbgohcedakpnbaaDoorRoundReg
import Derived.Test.YtbgohcedakpnbaaDoorOrows
set_option linter.unusedVariables false
set_option linter.unusedSimpArgs false
namespace Go.Proofs.YtbgohcedakpnbaaDoor
open Go.RowKit Go.Shelf
/-- the bytes of which the first i digits were read -/
def stB (l : List UInt8) (i : Nat) : List UInt8 := (List.range 32).map fun j => if 2 * j + 2 ≤ i then l.getD j 0 else if 2 * j + 1 = i then UInt8.ofNat ((l.getD j 0).toNat / 16) else 0
theorem stB_len (l : List UInt8) (i : Nat) : (stB l i).length = 32 := by simp [stB]
theorem stB_get (l : List UInt8) (i j : Nat) (h : j < 32) : (stB l i)[j]? = some (if 2 * j + 2 ≤ i then l.getD j 0 else if 2 * j + 1 = i then UInt8.ofNat ((l.getD j 0).toNat / 16) else 0) := by
  unfold stB
  rw [List.getElem?_map, List.getElem?_range h]
  rfl
theorem stB_zero (l : List UInt8) : stB l 0 = List.replicate 32 0 := by
  apply List.ext_getElem?
  intro j
  by_cases h : j < 32
  · rw [stB_get l 0 j h, if_neg (by omega), if_neg (by omega), List.getElem?_replicate, if_pos h]
  · rw [List.getElem?_eq_none (by rw [stB_len]; omega), List.getElem?_eq_none (by simp; omega)]
theorem stB_all (l : List UInt8) (h : l.length = 32) : stB l 64 = l := by
  apply List.ext_getElem?
  intro j
  by_cases hj : j < 32
  · rw [stB_get l 64 j hj, if_pos (by omega), List.getElem?_eq_getElem (by omega), List.getD_eq_getElem?_getD, List.getElem?_eq_getElem (by omega)]
    rfl
  · rw [List.getElem?_eq_none (by rw [stB_len]; omega), List.getElem?_eq_none (by omega)]
theorem stB_set (l : List UInt8) (i : Nat) (h : i < 64) (v : UInt8) (hv : v = if i % 2 = 0 then UInt8.ofNat ((l.getD (i / 2) 0).toNat / 16) else l.getD (i / 2) 0) : (stB l i).set (i / 2) v = stB l (i + 1) := by
  apply List.ext_getElem?
  intro j
  by_cases hj : j < 32
  · rw [stB_get l (i + 1) j hj, List.getElem?_set, stB_len]
    by_cases e : i / 2 = j
    · rw [if_pos e, if_pos (by omega), hv, e]
      congr 1
      by_cases he : i % 2 = 0
      · rw [if_pos he, if_neg (by omega), if_pos (by omega)]
      · rw [if_neg he, if_pos (by omega)]
    · rw [if_neg e, stB_get l i j hj]
      congr 1
      by_cases h1 : 2 * j + 2 ≤ i
      · rw [if_pos h1, if_pos (by omega)]
      · rw [if_neg h1, if_neg (by omega), if_neg (by omega), if_neg (by omega)]
  · rw [List.getElem?_eq_none (by rw [List.length_set, stB_len]; omega), List.getElem?_eq_none (by rw [stB_len]; omega)]
theorem hexFlat_get : ∀ (l : List UInt8) (i : Nat), i < 2 * l.length → (l.flatMap hexP)[i]? = some (if i % 2 = 0 then mhexD ((l.getD (i / 2) 0).toNat / 16) else mhexD ((l.getD (i / 2) 0).toNat % 16)) := by
  intro l
  induction l with
  | nil => intro i h; simp at h
  | cons c r ih =>
    intro i h
    rw [List.flatMap_cons]
    match i with
    | 0 => rfl
    | 1 => rfl
    | i + 2 =>
      have e : (hexP c ++ r.flatMap hexP)[i + 2]? = (r.flatMap hexP)[i]? := rfl
      rw [e, ih i (by simp at h; omega)]
      have h1 : (i + 2) / 2 = i / 2 + 1 := by omega
      have h2 : (i + 2) % 2 = i % 2 := by omega
      rw [h1, h2, List.getD_cons_succ]
theorem hex_find (d : Nat) (h : d < 16) : Lib.indexByte [48, 49, 50, 51, 52, 53, 54, 55, 56, 57, 97, 98, 99, 100, 101, 102] (mhexD d) = d := by
  have hall : ∀ x : Fin 16, Lib.indexByte [48, 49, 50, 51, 52, 53, 54, 55, 56, 57, 97, 98, 99, 100, 101, 102] (mhexD x.val) = (x.val : Nat) := by decide +kernel
  exact hall ⟨d, h⟩
theorem find_hex (d : Nat) (c : UInt8) (w : World) (h : d < 16) (hc : c = mhexD d) :
    Calls Tryd.prog 77 #[.string ⟨#[48, 49, 50, 51, 52, 53, 54, 55, 56, 57, 97, 98, 99, 100, 101, 102]⟩, .int .u8 (c.toNat : Nat)] w fun e w' => e = .returned (.int .i64 d) ∧ w' = w := by
  subst hc
  have hA : Calls Tryd.prog 77 #[.string ⟨#[48, 49, 50, 51, 52, 53, 54, 55, 56, 57, 97, 98, 99, 100, 101, 102]⟩, .int .u8 ((mhexD d).toNat : Nat)] w fun e w' => e = .returned (.int .i64 (Lib.indexByte [48, 49, 50, 51, 52, 53, 54, 55, 56, 57, 97, 98, 99, 100, 101, 102] (((mhexD d).toNat : Nat) : Int).toNat.toUInt8)) ∧ w' = w :=
    Any.strings_IndexByte sxbLays ⟨#[48, 49, 50, 51, 52, 53, 54, 55, 56, 57, 97, 98, 99, 100, 101, 102]⟩ ((mhexD d).toNat : Nat) w
  have hc : (((mhexD d).toNat : Nat) : Int).toNat.toUInt8 = mhexD d := by simp
  rw [hc, hex_find d h] at hA
  exact hA
theorem mrun_blk {P : Program} {w : World} {g : Nat} {t : TypeId} {L : List UInt8} (src dst e : TypeId) (hs : P.underlying src = some (.slice e)) (he : P.underlying e = some (.int .u8)) (hd : P.underlying dst = some .string) {c n : Nat} (hn : L.length = n) (h : Blk w g t (L.map vB).toArray) :
    (convert src dst (.slice (some ⟨g, 0, none⟩) n c)).run P w = .ok (.string ⟨L.toArray⟩) w := by
  subst hn
  refine run_convert_bytes_back w src dst e ⟨g, 0, none⟩ c L hs he hd fun j hj => ?_
  rw [Addr.add_lit, Nat.zero_add, h.cell j, List.getElem?_toArray, List.getElem?_map, List.getElem?_eq_getElem hj]
  rfl
theorem mmake32 (w : World) : (Instr.makeSlice 54 (.int .i64 32) (.int .i64 32)).run Tryd.prog w = .ok (.slice (some ⟨w.heap.size, 0, none⟩) 32 32) (w.alloc (.cells (List.replicate 32 (Value.int .u8 0)).toArray 5)) :=
  run_mkrow (P := Tryd.prog) 54 5 (.int .u8 0) 1 Tryd.underlying54 byte_info rfl 32 (by omega) (by omega) w
theorem u8_or_low (a b : Nat) (ha : a < 16) (hb : b < 16) : bits .or .u8 ((a * 16 : Nat) : Int) (b : Int) = ((a * 16 + b : Nat) : Int) := by
  have hall : ∀ x y : Fin 16, bits .or .u8 ((x.val * 16 : Nat) : Int) ((y.val : Nat) : Int) = ((x.val * 16 + y.val : Nat) : Int) := by decide +kernel
  exact hall ⟨a, ha⟩ ⟨b, hb⟩
set_option maxRecDepth 100000 in
set_option maxHeartbeats 2000000 in
theorem unhex_good (p s : ByteArray) (w : World) (hp : p.size = 32) (hs : hexM p = s) :
    Calls Tryd.prog 60 #[.string s] w fun e w' => e = .returned (.string p) ∧ Below w.heap.size w w' := by
  have hsz : s.size = 64 := by rw [← hs, hexM_size, hp]
  obtain ⟨l, hl⟩ : ∃ l, p.data.toList = l := ⟨_, rfl⟩
  have hll : l.length = 32 := by rw [← hl]; simpa using hp
  have HG : Hid (∀ i (h : i < s.size), s[i] = if i % 2 = 0 then mhexD ((l.getD (i / 2) 0).toNat / 16) else mhexD ((l.getD (i / 2) 0).toNat % 16)) := Lib.hid (fun i h => by
    have h1 := hexFlat_get l i (by omega)
    have h2 : s.data.toList = l.flatMap hexP := by rw [← hs, ← hl]; simp [hexM]
    rw [← h2, List.getElem?_eq_getElem (by simpa using h)] at h1
    exact Option.some.inj h1)
  have HP : Hid (p = ⟨l.toArray⟩) := Lib.hid (by rw [← hl])
  have HL := Lib.hid hll
  have t1 : ((s.size : Int) == 64) = true := by simp; omega
  have hmk := mmake32 w
  have hR0 : Hid (Row vB (w.alloc (.cells (List.replicate 32 (Value.int .u8 0)).toArray 5)) w.heap.size 5 (stB l 0)) := Lib.hid (by
    rw [stB_zero]
    exact Row.new (f := vB) w 5 32 0)
  obtain ⟨Z, hZ⟩ : ∃ Z : Array Value, (List.replicate 32 (Value.int .u8 0)).toArray = Z := ⟨_, rfl⟩
  rw [hZ] at hmk hR0
  clear hZ hl hll hs hp
  go_enter Tryd.func60, Tryd.ntmps60
  go_wp2_with fail
  refine (must_true _).mono ?_
  rintro e w1 ⟨rfl, rfl⟩
  go_wp2_with fail
  clear hmk
  go_loopw [13] (fun iv wr => ∃ i : Nat, i ≤ 64 ∧ iv = .int .i64 i ∧ Hid (Row vB wr w.heap.size 5 (stB l i)) ∧ Below w.heap.size w wr) (fun iv _ => 64 - (intOf iv).toNat)
  case atStart => exact ⟨0, by omega, rfl, hR0, by go_grown⟩
  case round =>
    clear hR0
    obtain ⟨i, hi, rfl, HR, hB⟩ := hrel
    by_cases hlt : i < s.size
    · have hgi := HG.out i hlt
      have hbi := (s[i]'hlt).toNat_lt
      have k0 : (0 : Int) ≤ (i : Int) := by omega
      have k1 : (i : Int) < (s.size : Int) := by omega
      obtain ⟨j, hj⟩ : ∃ j, i / 2 = j := ⟨_, rfl⟩
      have hji : (i : Int) / 2 = (j : Int) := by omega
      have hj32 : j < 32 := by omega
      have j0 : (0 : Int) ≤ (j : Int) := by omega
      have j1 : (j : Int) < 32 := by omega
      obtain ⟨P, hP⟩ : ∃ P, l.getD j 0 = P := ⟨_, rfl⟩
      have hPb := P.toNat_lt
      have hget := stB_get l i j hj32
      rw [hP] at hget
      have hst := fun v hv => stB_set l i (by omega) v hv
      rw [hj] at hst hgi
      rw [hP] at hgi
      have HSt := Lib.hid hst
      have hlt2 := HR.out.lt
      have f0 := HR.out.free j
      by_cases he : i % 2 = 0
      · rw [if_neg (by omega), if_neg (by omega)] at hget
        rw [if_pos he] at hgi
        obtain ⟨d, hd⟩ : ∃ d, P.toNat / 16 = d := ⟨_, rfl⟩
        have hd16 : d < 16 := by omega
        have HF := Lib.hid (fun W => find_hex d (s[i]'hlt) W hd16 (by rw [hgi, hd]))
        have c0 := HR.out.get hget
        have d0 : decide ((0 : Int) ≤ (d : Int)) = true := by simp
        have hor := u8_or_low 0 d (by omega) hd16
        rw [Nat.zero_mul, Nat.zero_add] at hor
        have hor0 : bits .or .u8 0 (d : Int) = (d : Int) := hor
        have HE : Hid (Row vB (wr.setCell ⟨w.heap.size, j, none⟩ (.int .u8 d)) w.heap.size 5 (stB l (i + 1))) := Lib.hid (by
          have h1 := HR.out.set_ j (UInt8.ofNat d)
          rw [HSt.out (UInt8.ofNat d) (by rw [if_pos he, hP, hd])] at h1
          have h2 : vB (UInt8.ofNat d) = .int .u8 (d : Int) := by unfold vB; rw [show (UInt8.ofNat d).toNat = d by simp; omega]
          rw [h2] at h1
          exact h1)
        unfold vB at c0
        clear hgi hget hst hP hd hj HR
        go_wp2_with fail
        refine (HF.out _).mono ?_
        rintro e w1 ⟨rfl, rfl⟩
        go_wp2_with fail
        refine (must_true _).mono ?_
        rintro e w1 ⟨rfl, rfl⟩
        go_wp2_with fail
        go_roundw
        case rel => exact ⟨i + 1, by omega, by go_num, HE, by go_grown⟩
        case measure => simp [intOf]; omega
      · rw [if_neg (by omega), if_pos (by omega)] at hget
        rw [if_neg he] at hgi
        obtain ⟨d, hd⟩ : ∃ d, P.toNat % 16 = d := ⟨_, rfl⟩
        obtain ⟨h, hh⟩ : ∃ h, P.toNat / 16 = h := ⟨_, rfl⟩
        have hd16 : d < 16 := by omega
        have hh16 : h < 16 := by omega
        have HF := Lib.hid (fun W => find_hex d (s[i]'hlt) W hd16 (by rw [hgi, hd]))
        rw [hh] at hget
        have c0 := HR.out.get hget
        unfold vB at c0
        rw [show (UInt8.ofNat h).toNat = h by simp; omega] at c0
        have d0 : decide ((0 : Int) ≤ (d : Int)) = true := by simp
        have hor := u8_or_low h d hh16 hd16
        have hor2 : bits .or .u8 ((h : Int) * 16) (d : Int) = ((P.toNat : Nat) : Int) := by
          have e1 : (h : Int) * 16 = ((h * 16 : Nat) : Int) := by simp
          rw [e1, hor]
          congr 1
          omega
        have HE : Hid (Row vB (wr.setCell ⟨w.heap.size, j, none⟩ (.int .u8 ((P.toNat : Nat) : Int))) w.heap.size 5 (stB l (i + 1))) := Lib.hid (by
          have h1 := HR.out.set_ j P
          rw [HSt.out P (by rw [if_neg he, hP])] at h1
          exact h1)
        clear hgi hget hst hP hd hj HR hor hh
        go_wp2_with fail
        refine (HF.out _).mono ?_
        rintro e w1 ⟨rfl, rfl⟩
        go_wp2_with fail
        refine (must_true _).mono ?_
        rintro e w1 ⟨rfl, rfl⟩
        go_wp2_with fail
        go_roundw
        case rel => exact ⟨i + 1, by omega, by go_num, HE, by go_grown⟩
        case measure => simp [intOf]; omega
    · obtain rfl : i = 64 := by omega
      have hr := HR.out
      rw [stB_all l HL.out] at hr
      have hcv := mrun_blk (P := Tryd.prog) (L := l) (n := 32) (c := 32) 54 9 5 Tryd.underlying54 Tryd.underlying5 Tryd.underlying9 HL.out hr
      clear hr HR
      go_wp2_with fail
      go_ret
      exact ⟨by rw [HP.out]; rfl, hB⟩
end Go.Proofs.YtbgohcedakpnbaaDoor
/- member: a text's lines, one by one (where each has its end). -/
namespace Go.Proofs.YtbgohcedakpnbaaDoor
open Go.RowKit Go.Shelf
attribute [local go_sem] Oper.semAt_some
theorem index_front : ∀ (l r : List UInt8) (c : UInt8), c ∉ l → Lib.indexByte (l ++ c :: r) c = l.length := by
  intro l r c
  induction l with
  | nil => intro _; simp [Lib.indexByte]
  | cons b l ih =>
    intro h
    have h1 : (b == c) = false := by
      rw [beq_eq_false_iff_ne]
      rintro rfl
      exact h (List.mem_cons_self ..)
    have h2 := ih (fun hm => h (List.mem_cons_of_mem _ hm))
    rw [List.cons_append]
    unfold Lib.indexByte
    rw [h1, h2]
    have h3 : ((l.length : Int) == -1) = false := by
      rw [beq_eq_false_iff_ne]
      omega
    rw [h3]
    simp
theorem cut_front (x : ByteArray) (r : List UInt8) (c : UInt8) (h : c ∉ x.data.toList) : cutF ⟨(x.data.toList ++ c :: r).toArray⟩ c = (x, ⟨r.toArray⟩, true) := by
  have hi : Lib.indexByte (⟨(x.data.toList ++ c :: r).toArray⟩ : ByteArray).data.toList c = (x.size : Nat) := by
    show Lib.indexByte (x.data.toList ++ c :: r) c = _
    rw [index_front _ _ _ h]
    simp
  unfold cutF
  rw [hi, if_neg (by omega)]
  have hd : x.data.toList.length = x.size := by simp
  refine Prod.ext ?_ (Prod.ext ?_ rfl)
  · apply ByteArray.ext
    apply Array.ext'
    simp only [Int.toNat_natCast, ByteArray.data_extract, Array.toList_extract]
    simp [List.extract, hd]
  · apply ByteArray.ext
    apply Array.ext'
    simp only [Int.toNat_natCast, ByteArray.data_extract, Array.toList_extract]
    have hs : (⟨(x.data.toList ++ c :: r).toArray⟩ : ByteArray).size = x.size + 1 + r.length := by
      show (x.data.toList ++ c :: r).toArray.size = _
      simp
      omega
    rw [hs]
    simp only [List.extract]
    rw [show x.data.toList ++ c :: r = (x.data.toList ++ [c]) ++ r by simp, List.drop_append_of_le_length (by simp), List.drop_eq_nil_of_le (by simp)]
    rw [List.nil_append, List.take_of_length_le (by omega)]
/-- what the iterator may do: write its box -/
def TnL (g : Nat) (A B : World) : Prop := B.os = A.os ∧ B.tape = A.tape ∧ B.output = A.output ∧ A.heap.size ≤ B.heap.size ∧ ∀ i, i ≠ g → B.heap[i]? = A.heap[i]?
theorem TnL.still {g : Nat} {A B : World} (h : Still A B) : TnL g A B := ⟨h.1, h.2.1, h.2.2.1, by rw [h.2.2.2]; exact Nat.le_refl _, fun i _ => by rw [h.2.2.2]⟩
theorem TnL.trans {g : Nat} {A B C : World} (h : TnL g A B) (k : TnL g B C) : TnL g A C := ⟨k.1.trans h.1, k.2.1.trans h.2.1, k.2.2.1.trans h.2.2.1, Nat.le_trans h.2.2.2.1 k.2.2.2.1, fun i hi => (k.2.2.2.2 i hi).trans (h.2.2.2.2 i hi)⟩
theorem TnL.set (g : Nat) (A : World) (v : Value) : TnL g A (A.setCell ⟨g, 0, none⟩ v) := by
  have hb : Below 0 A (A.setCell ⟨g, 0, none⟩ v) := (Below.refl 0 A).setCell (p := ⟨g, 0, none⟩) (Nat.zero_le _) v
  exact ⟨hb.os, hb.tape, hb.output, hb.size, fun i hi => Below.heap_setCell A ⟨g, 0, none⟩ v i hi⟩
def strOf (w : World) (g : Nat) : Nat := match w.cell? ⟨g, 0, none⟩ with | some (.string s) => s.size | _ => 0
theorem catT_cons (x : ByteArray) (L : List ByteArray) : catT (x :: L) = x.data.toList ++ 10 :: catT L := by simp [catT]
theorem mlines_in (F : Fence) (n : Nat) (hf : F.fn 56) (hro : F.round = none) (s : ByteArray) (w : World) :
    CallsIn F n Tryd.prog 56 #[.string s] w fun e w' => e = .returned (.func (.func 73) #[] #[.pointer (some ⟨w.heap.size, 0, none⟩)]) ∧ w.alloc (.cells #[.string s] 9) = w' := by
  refine callsIn_of_wp Tryd.func56 rfl hf ?_ hro
  simp only [Tryd.ntmps56, List.size_toArray, List.length_cons, List.length_nil, Nat.reduceAdd, Nat.reduceSub, Array.replicate_succ, Array.replicate_zero, List.push_toArray, List.append_toArray, List.nil_append, List.cons_append]
  gi_wp2
  go_ret
  exact ⟨rfl, rfl⟩
set_option maxHeartbeats 2000000 in
set_option maxRecDepth 100000 in
theorem mlines1_in (nn : Nat) (hnn : 1 ≤ nn) (l g : Nat) (L : List ByteArray) (hL : ∀ s ∈ L, (10 : UInt8) ∉ s.data.toList) (hlen : (catT L).length ≤ 100000) (J : List ByteArray → World → Prop)
    (hJt : ∀ s A B, J s A → TnL g A B → J s B)
    (hY : ∀ pre (x : ByteArray) W1, J pre W1 → pre.length < L.length → L[pre.length]? = some x → YieldAt Fence.wide (nn - 1) Tryd.prog l #[.string x] W1 fun e W' => e = .returned (.bool true) ∧ J (pre ++ [x]) W' ∧ Kept g W1 W')
    (W : World) (hC : Blk W g 9 #[.string ⟨(catT L).toArray⟩]) (h0 : J [] W) :
    CallsIn Fence.wide nn Tryd.prog 73 #[.func (.yield l) #[] #[], .pointer (some ⟨g, 0, none⟩)] W fun e' W' => (∃ v, e' = .returned v) ∧ ∃ xs, xs = L ∧ J xs W' := by
  have HY := Lib.hid hY
  have HJ := Lib.hid hJt
  have HL := Lib.hid (And.intro hL hlen)
  have HC := Lib.hid hC
  have H0 := Lib.hid h0
  clear hY hJt hL hlen hC h0
  refine callsIn_of_wp Tryd.func73 rfl trivial ?_ rfl
  simp only [Tryd.ntmps73, List.size_toArray, List.length_cons, List.length_nil, Nat.reduceAdd, Nat.reduceSub, Array.replicate_succ, Array.replicate_zero, List.push_toArray, List.append_toArray, List.nil_append, List.cons_append]
  gi_wp2_with fail
  gi_loopw [] (fun wr => ∃ k : Nat, k ≤ L.length ∧ Hid (Blk wr g 9 #[.string ⟨(catT (L.drop k)).toArray⟩]) ∧ Hid (J (L.take k) wr)) (fun w => strOf w g)
  case atStart => exact ⟨0, by omega, HC, H0⟩
  case round =>
    clear HC H0
    obtain ⟨k, hk, HB, HJk⟩ := hrel
    have c0 := HB.out.cells 0 _ rfl
    have f0 := HB.out.frozen
    have hlg := HB.out.lt
    simp only [List.getElem_toArray, List.getElem_cons_zero] at c0
    by_cases hlt : k < L.length
    · obtain ⟨x, hx⟩ : ∃ x, L[k]? = some x := ⟨_, List.getElem?_eq_getElem hlt⟩
      have hdrop : L.drop k = x :: L.drop (k + 1) := by
        rw [List.drop_eq_getElem_cons hlt]
        rw [List.getElem?_eq_getElem hlt] at hx
        rw [Option.some.inj hx]
      have hcut := cut_front x (catT (L.drop (k + 1))) 10 (HL.out.1 x (List.mem_of_getElem? hx))
      have hcc : catT (L.drop k) = x.data.toList ++ 10 :: catT (L.drop (k + 1)) := by rw [hdrop, catT_cons]
      have hsz : (catT (L.drop k)).length ≤ 100000 := by
        have h1 : catT L = catT (L.take k) ++ catT (L.drop k) := by
          unfold catT
          rw [← List.flatMap_append, List.take_append_drop]
        have h2 := HL.out.2
        rw [h1, List.length_append] at h2
        omega
      obtain ⟨s, hs⟩ : ∃ s : ByteArray, (⟨(catT (L.drop k)).toArray⟩ : ByteArray) = s := ⟨_, rfl⟩
      obtain ⟨r, hr⟩ : ∃ r : ByteArray, (⟨(catT (L.drop (k + 1))).toArray⟩ : ByteArray) = r := ⟨_, rfl⟩
      rw [← hcc, hs, hr] at hcut
      have hss : s.size ≤ 100000 := by rw [← hs]; show (catT (L.drop k)).toArray.size ≤ _; simpa using hsz
      have hrs : r.size < s.size := by
        rw [← hs, ← hr]
        show (catT (L.drop (k + 1))).toArray.size < (catT (L.drop k)).toArray.size
        rw [List.size_toArray, List.size_toArray, hcc]
        simp
        omega
      have hne : s.toList ≠ [] := by
        rw [← hs, ByteArray.toList_eq]
        show (catT (L.drop k)).toArray.toList ≠ []
        rw [hcc]
        simp
      have hne2 : (s.toList == []) = false := by simpa using hne
      have HCU := Lib.hid (fun W => cut_any s 10 W (by omega))
      have HK := Lib.hid hcut
      have HR := Lib.hid hr
      have HX := Lib.hid hx
      have HTk : Hid (L.take k ++ [x] = L.take (k + 1)) := Lib.hid (by rw [List.take_add_one, hx]; rfl)
      have hms : strOf wr g = s.size := by unfold strOf; rw [c0, hs]
      have HM := Lib.hid (And.intro hms hrs)
      rw [hs] at c0
      clear hx hdrop hcut hcc hsz hs hr hss hrs hms
      gi_wp2_with fail
      refine ⟨trivial, ?_⟩
      gi_at_call 58
      refine (callsIn_wide.2 (HCU.out _)).mono ?_
      rintro e w1 ⟨rfl, hb1⟩
      rw [HK.out]
      dsimp only
      have HB1 := Lib.hid (HB.out.below (hb1.below (B0 := wr.heap.size)) hlg)
      have HJ1 := Lib.hid (HJ.out _ _ _ HJk.out (TnL.still hb1))
      clear hb1 c0 f0
      gi_wp2_with fail
      refine ⟨trivial, ?_⟩
      gi_at_call 38
      refine (callsIn_wide.2 (must_true _)).mono ?_
      rintro e w2 ⟨rfl, rfl⟩
      obtain ⟨fn, tmps, assign, body, hy, hYY⟩ := HY.out (L.take k) x w1 HJ1.out (by rw [List.length_take]; omega) (by rw [List.length_take, Nat.min_eq_left hk]; exact HX.out)
      have HRR := Lib.hid hYY
      clear hYY
      gi_wp2_with fail
      refine HRR.out.mono ?_
      rintro e W3 ⟨rfl, hJ3, hk3⟩
      have hb3 : Blk W3 g 9 #[.string ⟨(catT (L.drop k)).toArray⟩] := (show W3.heap[g]? = w1.heap[g]? from hk3).trans HB1.out
      have c3 := hb3.cells 0 _ rfl
      have f3 := hb3.frozen
      have hl3 := hb3.lt
      simp only [List.getElem_toArray, List.getElem_cons_zero] at c3
      have HB4 : Hid (Blk (W3.setCell ⟨g, 0, none⟩ (.string r)) g 9 #[.string ⟨(catT (L.drop (k + 1))).toArray⟩]) := Lib.hid (by
        rw [HR.out]
        exact hb3.set_ 0 (.string r))
      have HJ4 : Hid (J (L.take (k + 1)) (W3.setCell ⟨g, 0, none⟩ (.string r))) := Lib.hid (by
        rw [← HTk.out]
        exact HJ.out _ _ _ hJ3 (TnL.set g W3 _))
      have HM4 : Hid (strOf (W3.setCell ⟨g, 0, none⟩ (.string r)) g = r.size) := Lib.hid (by
        have h := HB4.out.cells 0 _ rfl
        simp only [List.getElem_toArray, List.getElem_cons_zero] at h
        unfold strOf
        rw [h, HR.out])
      clear hJ3 hk3 hb3
      gi_wp2_with fail
      go_roundw
      case rel => exact ⟨k + 1, by omega, HB4, HJ4⟩
      case measure =>
        have h1 := HM.out
        have h2 := HM4.out
        omega
    · obtain rfl : k = L.length := by omega
      have hd : L.drop L.length = [] := List.drop_length ..
      have ht : L.take L.length = L := List.take_length ..
      have HJe := HJk.out
      rw [ht] at HJe
      have HJf := Lib.hid HJe
      rw [hd] at c0
      have c1 : wr.cell? ⟨g, 0, none⟩ = some (.string ⟨#[]⟩) := c0
      clear c0 f0 hd ht HJe HJk
      gi_wp2_with fail
      go_end0
      exact ⟨⟨_, rfl⟩, _, rfl, HJf.out⟩
end Go.Proofs.YtbgohcedakpnbaaDoor
/- member: a text's front; what the rounds of read need. -/
namespace Go.Proofs.YtbgohcedakpnbaaDoor
open Go.RowKit Go.Shelf
set_option maxRecDepth 100000 in
theorem prefix_good (s rest : ByteArray) (w : World) (hs : s.size ≤ 140737488351232) (h6 : 6 ≤ s.size) (h1 : s.extract 0 6 = epochT) (h2 : s.extract 6 s.size = rest) :
    Calls Tryd.prog 57 #[.string s, .string ⟨#[101, 112, 111, 99, 104, 32]⟩] w fun e w' => e = .returned (.tuple #[.string rest, .bool true]) ∧ Still w w' := by
  unfold epochT at h1
  have hP : ∀ W, Calls Tryd.prog 91 #[.string s, .string ⟨#[101, 112, 111, 99, 104, 32]⟩] W fun e w' => e = .returned (.bool true) ∧ W = w' := fun W => by
    have t1 : decide ((6 : Int) ≤ (s.size : Int)) = true := by simp; omega
    have t2 : (6 : Int) ≤ (s.size : Int) := by omega
    go_enter Tryd.func91, Tryd.ntmps91
    go_wp2_with fail
    go_ret
    exact ⟨rfl, rfl⟩
  have hC : ∀ W, Calls Tryd.prog 74 #[.string s, .string ⟨#[101, 112, 111, 99, 104, 32]⟩] W fun e w' => e = .returned (.tuple #[.string rest, .bool true]) ∧ W = w' := fun W => by
    have t2 : (6 : Int) ≤ (s.size : Int) := by omega
    have HP := Lib.hid hP
    clear hP
    go_enter Tryd.func74, Tryd.ntmps74
    go_wp2_with fail
    refine (HP.out _).mono ?_
    rintro e w1 ⟨rfl, rfl⟩
    go_wp2_with fail
    go_ret2
    exact ⟨rfl, rfl⟩
  have HC := Lib.hid hC
  clear hC hP
  go_enter Tryd.func57, Tryd.ntmps57
  go_wp2_with fail
  refine (HC.out _).mono ?_
  rintro e w1 ⟨rfl, rfl⟩
  go_wp2_with fail
  go_ret2
  exact ⟨rfl, Still.refl _⟩
/-- append in a round -/
theorem wpIn_append_any {F : Fence} {m0 : Nat} {P : Program} {w : World} (hF : ∀ f, F.fn f) {o : Oper} {a : Act} {K : Act → World → Prop} {Q : Exit → Act → World → Prop} (s x : Operand) (t : TypeId)
    (ho : o.op = .call { callee := .builtin .append, args := #[s, x], argTypes := #[t, t] })
    (base : Nat) (e : TypeId) (i : TypeInfo) (z : Value) (size bytes : Nat) (ht : P.underlying t = some (.slice e)) (hi : P.info? e = some i) (hz : i.zero = some z)
    (hsize : i.size = size) (hby : i.bytes = bytes) (hzs : z.cells.size = size) (hsz : 0 < size)
    (v : Value) (n : Nat) (xs : List Value) (hs : a.eval s = v) (hown : w.ownsRow base e size v n xs)
    (B : Nat) (A : Option Addr) (m c : Nat) (news : List Value) (hx : a.eval x = .slice A m c) (hr : Reads w B size A m news) (h1 : ∀ u ∈ news, u.oneCell' = true)
    (h63 : n + m ≤ maxLen) (hbytes : (n + m) * bytes ≤ 140737488355328) (hbase : base ≤ w.heap.size)
    (h : ∀ v' w', w'.ownsRow base e size v' (n + m) (xs ++ news) → w.grownBy w' v.ownBlock → (v'.ownBlock = v.ownBlock ∨ v'.ownBlock = some w.heap.size) → K (a.put o.dst v') w') : o.wpIn F m0 P a w K Q := by
  obtain ⟨v', w', hrun, h2, h3, h4⟩ := run_append_any (P := P) w base t o.type e i z size bytes ht hi hz hsize hby hzs hsz v n xs hown B A m c news hr h1 h63 hbytes hbase
  refine ⟨fun f _ => hF f, ?_⟩
  rw [Oper.semAt_eq _ _ _ (fun c hc => by rw [ho] at hc; cases hc)]
  unfold execOp
  simp only [ho, resolve, invoke, builtin, Sem.run_bind, Sem.run_pure, Result.andThen_ok, List.map_toArray, List.map_cons, List.map_nil, hs, hx, hrun]
  exact h v' w' h2 h3 h4
end Go.Proofs.YtbgohcedakpnbaaDoor
/- member, plain: the bytes of lines. -/
namespace Go.Proofs.YtbgohcedakpnbaaDoor
theorem dec_bytes (n : Nat) : ∀ b ∈ Lib.decDigits n, 48 ≤ b.toNat ∧ b.toNat ≤ 57 := by
  induction n using Nat.strongRecOn with
  | _ n ih =>
    rw [dec_rec]
    split
    · rename_i h
      intro b hb
      obtain rfl := List.mem_singleton.1 hb
      simp
      omega
    · intro b hb
      rcases List.mem_append.1 hb with hb | hb
      · exact ih (n / 10) (by omega) b hb
      · obtain rfl := List.mem_singleton.1 hb
        simp
        omega
theorem hexD_ge (d : Nat) (h : d < 16) : 48 ≤ (mhexD d).toNat := by
  have hall : ∀ x : Fin 16, 48 ≤ (mhexD x.val).toNat := by decide +kernel
  exact hall ⟨d, h⟩
theorem hex_bytes (p : ByteArray) : ∀ b ∈ (hexM p).data.toList, 48 ≤ b.toNat := by
  intro b hb
  have hb2 : b ∈ p.data.toList.flatMap hexP := by simpa [hexM] using hb
  obtain ⟨c, _, hc⟩ := List.mem_flatMap.1 hb2
  have := c.toNat_lt
  simp only [hexP, List.mem_cons, List.not_mem_nil, or_false] at hc
  rcases hc with rfl | rfl
  · exact hexD_ge _ (by omega)
  · exact hexD_ge _ (by omega)
theorem name_bytes {x : ByteArray} (h : nameB x = true) : ∀ b ∈ x.data.toList, 48 ≤ b.toNat := by
  unfold nameB at h
  simp only [Bool.and_eq_true, List.all_eq_true] at h
  intro b hb
  have := h.2.2 b hb
  simp only [nameC, letC, digC, Bool.or_eq_true, Bool.and_eq_true, decide_eq_true_eq] at this
  omega
theorem not_small {l : List UInt8} {c : UInt8} (hc : c.toNat < 48) (h : ∀ b ∈ l, 48 ≤ b.toNat) : c ∉ l := by
  intro hm
  have := h c hm
  omega
theorem dig_data (n : Nat) : (digB n).data.toList = Lib.decDigits n := rfl
theorem line0_data (r : Rec) : (line0 r).data.toList = [101, 112, 111, 99, 104, 32] ++ (Lib.decDigits r.epoch.toNat ++ 32 :: Lib.decDigits r.k.toNat) := by
  unfold line0
  simp only [ByteArray.data_append, Array.toList_append, dig_data]
  simp [epochT, blankT]
theorem lineAt_data (x p : ByteArray) : (lineAt x p).data.toList = x.data.toList ++ 32 :: (hexM p).data.toList := by
  unfold lineAt
  simp only [ByteArray.data_append, Array.toList_append]
  simp [blankT]
theorem line0_no10 (r : Rec) : (10 : UInt8) ∉ (line0 r).data.toList := by
  rw [line0_data]
  intro h
  have h1 := not_small (c := 10) (by decide) (fun b hb => (dec_bytes r.epoch.toNat b hb).1)
  have h2 := not_small (c := 10) (by decide) (fun b hb => (dec_bytes r.k.toNat b hb).1)
  simp only [List.mem_append, List.mem_cons, List.not_mem_nil, or_false] at h
  rcases h with h | h | h | h
  · revert h; decide
  · exact h1 h
  · revert h; decide
  · exact h2 h
theorem lineAt_no10 {x : ByteArray} (p : ByteArray) (hx : nameB x = true) : (10 : UInt8) ∉ (lineAt x p).data.toList := by
  rw [lineAt_data]
  intro h
  have h1 := not_small (c := 10) (by decide) (name_bytes hx)
  have h2 := not_small (c := 10) (by decide) (hex_bytes p)
  simp only [List.mem_append, List.mem_cons] at h
  rcases h with h | h | h
  · exact h1 h
  · revert h; decide
  · exact h2 h
theorem ba_of {a : ByteArray} {l : List UInt8} (h : a.data.toList = l) : a = ⟨l.toArray⟩ := by
  apply ByteArray.ext
  apply Array.ext'
  simpa using h
theorem cut_line (x p : ByteArray) (hx : nameB x = true) : cutF (lineAt x p) 32 = (x, hexM p, true) := by
  rw [ba_of (lineAt_data x p), cut_front x _ 32 (not_small (by decide) (name_bytes hx))]
/-- what stands behind 'epoch ' -/
def numsT (r : Rec) : ByteArray := digB r.epoch.toNat ++ blankT ++ digB r.k.toNat
theorem nums_data (r : Rec) : (numsT r).data.toList = Lib.decDigits r.epoch.toNat ++ 32 :: Lib.decDigits r.k.toNat := by
  unfold numsT
  simp only [ByteArray.data_append, Array.toList_append, dig_data]
  simp [blankT]
theorem cut_nums (r : Rec) : cutF (numsT r) 32 = (digB r.epoch.toNat, digB r.k.toNat, true) := by
  rw [ba_of (nums_data r)]
  have h := cut_front (digB r.epoch.toNat) (Lib.decDigits r.k.toNat) 32 (not_small (by decide) (fun b hb => (dec_bytes _ b hb).1))
  rw [dig_data] at h
  rw [h]
  rfl
theorem line0_cut (r : Rec) : (line0 r).extract 0 6 = epochT ∧ (line0 r).extract 6 (line0 r).size = numsT r ∧ 6 ≤ (line0 r).size := by
  have e : line0 r = epochT ++ numsT r := by
    apply ByteArray.ext
    apply Array.ext'
    rw [ByteArray.data_append, Array.toList_append, line0_data, nums_data]
    rfl
  have h6 : epochT.size = 6 := rfl
  refine ⟨?_, ?_, ?_⟩
  · apply ByteArray.ext
    apply Array.ext'
    rw [ByteArray.data_extract, Array.toList_extract, line0_data]
    rfl
  · apply ByteArray.ext
    apply Array.ext'
    rw [ByteArray.data_extract, Array.toList_extract, line0_data, nums_data]
    have hs : (line0 r).size = 6 + (numsT r).size := by rw [e, ByteArray.size_append, h6]
    have hn : (numsT r).size = (Lib.decDigits r.epoch.toNat ++ 32 :: Lib.decDigits r.k.toNat).length := by rw [← nums_data]; simp
    simp only [List.extract]
    rw [hs, List.drop_append_of_le_length (by simp), List.drop_eq_nil_of_le (by simp), List.nil_append, List.take_of_length_le (by rw [hn]; omega)]
  · rw [e, ByteArray.size_append, h6]; omega
theorem catT_le (L : List ByteArray) (h : ∀ s ∈ L, s.size ≤ 100) : (catT L).length ≤ 101 * L.length := by
  induction L with
  | nil => simp [catT]
  | cons x L ih =>
    have h1 := h x (List.mem_cons_self ..)
    have h2 := ih (fun s hs => h s (List.mem_cons_of_mem _ hs))
    rw [catT_cons]
    have h3 : x.data.toList.length = x.size := by simp
    rw [List.length_append, List.length_cons, List.length_cons]
    omega
theorem lines_ok {r : Rec} (h : checkB r = true) : ∀ s ∈ linesL r, (10 : UInt8) ∉ s.data.toList ∧ s.size ≤ 100 := by
  obtain ⟨⟨he1, he2, hn1, hn16, hlp, hk1, hk2⟩, hpl⟩ := (checkB_iff r).1 h
  intro s hs
  unfold linesL at hs
  rcases List.mem_cons.1 hs with rfl | hs
  · refine ⟨line0_no10 r, ?_⟩
    have h1 : (line0 r).size = (line0 r).data.toList.length := by simp
    have h2 := mdec_len 6 r.epoch.toNat (by omega)
    have h3 := mdec_len 6 r.k.toNat (by omega)
    rw [h1, line0_data]
    simp only [List.length_append, List.length_cons, List.length_nil]
    omega
  · obtain ⟨i, hi⟩ := List.getElem?_of_mem hs
    rw [List.getElem?_zipWith] at hi
    cases hx : r.names[i]? with
    | none => rw [hx] at hi; cases hi
    | some x =>
      cases hy : r.pledges[i]? with
      | none => rw [hx, hy] at hi; cases hi
      | some y =>
        rw [hx, hy] at hi
        injection hi with hi
        subst hi
        have hok := hpl i (List.getElem?_eq_some_iff.1 hx).1
        unfold placeB at hok
        simp only [mgetD_at hx, mgetD_at hy, Bool.and_eq_true, decide_eq_true_eq] at hok
        have hxs : x.size ≤ 20 := by
          have := hok.1
          simp only [nameB, Bool.and_eq_true, decide_eq_true_eq] at this
          exact this.2.1
        refine ⟨lineAt_no10 y hok.1, ?_⟩
        have h1 : (lineAt x y).size = (lineAt x y).data.toList.length := by simp
        have h2 : x.data.toList.length = x.size := by simp
        have h3 : (hexM y).data.toList.length = (hexM y).size := by simp
        rw [h1, lineAt_data, List.length_append, List.length_cons, h2, h3, hexM_size]
        omega
end Go.Proofs.YtbgohcedakpnbaaDoor
/- member: read (where the text is a right record's). -/
namespace Go.Proofs.YtbgohcedakpnbaaDoor
open Go.RowKit Go.Shelf
attribute [local go_sem] Oper.semAt_some
theorem srow_cells {W : World} {base : Nat} {v : Value} {L : List ByteArray} (h : SRow W base v L) {g : Nat} (hg : v.ownBlock = some g) : ∃ o : Obj, W.heap[g]? = some o ∧ o.isCells = true := by
  rcases h.2 with ⟨hv, _⟩ | ⟨g', cap, cur, hv, _, hh, _⟩
  · rw [hv] at hg; cases hg
  · rw [hv] at hg
    have : g' = g := by simpa [Value.ownBlock] using hg
    subst this
    exact ⟨_, hh, rfl⟩
theorem srow_kc {W : World} {base : Nat} {v : Value} {L : List ByteArray} (h : SRow W base v L) (j : Nat) (o : Obj) (hj : v.ownBlock = some j) (ho : W.heap[j]? = some o) : o.isCells = true := by
  obtain ⟨o', h1, h2⟩ := srow_cells h hj
  rw [ho] at h1
  injection h1 with h1
  subst h1
  exact h2
theorem srow_kept {W W' : World} {base : Nat} {v : Value} {L : List ByteArray} {row : Option Nat} (h : SRow W base v L) (hg : W.grownBy W' row) (hr : v.ownBlock = none ∨ v.ownBlock ≠ row) : SRow W' base v L := World.ownsRow.kept h hg hr
theorem kf_set {B g : Nat} {W : World} (h : g < B) (o : Nat) (u : Value) : KeepsFrom B W (W.setCell ⟨g, o, none⟩ u) :=
  ⟨by simp, fun k ob hB hk _ => (Below.heap_setCell W ⟨g, o, none⟩ u k (by show k ≠ g; omega)).trans hk⟩
/-- append of one text, as one operation -/
theorem wp_append_sv {o : Oper} {a : Act} {w : World} {K : Act → World → Prop} {Q : Exit → Act → World → Prop} {base : Nat} {A : Option Addr} {j c : Nat} {L : List ByteArray} (s x : Operand)
    (ho : o.op = .call { callee := .builtin .append, args := #[s, x], argTypes := #[22, 22] })
    (hs : a.eval s = .slice A j c) (hown : SRow w base (.slice A j c) L) (hj : L.length = j) (g : Nat) (T : ByteArray) (hx : a.eval x = .slice (some ⟨g, 0, none⟩) 1 1) (hg : w.cell? ⟨g, 0, none⟩ = some (.string T)) (hz : j ≤ 1000) (hbase : base ≤ w.heap.size)
    (h : ∀ A' c' w', Hid (SRow w' base (.slice A' (j + 1) c') (L ++ [T])) → w.grownBy w' (Value.slice A j c).ownBlock → ((Value.slice A' (j + 1) c').ownBlock = (Value.slice A j c).ownBlock ∨ (Value.slice A' (j + 1) c').ownBlock = some w.heap.size) → K (a.put o.dst (.slice A' (j + 1) c')) w') : o.wp Tryd.prog a w K Q := by
  obtain ⟨i0, hi0, hz0, hz1, hz2⟩ := info_parts str_info3
  subst hj
  refine wp_append_any w s x _ ho base _ i0 _ 1 16 Tryd.underlying22 hi0 hz0 hz1 hz2 rfl (by omega) _ L.length (flat encS L) hs hown (g + 1) (some ⟨g, 0, none⟩) 1 1 [.string T] hx ?_ (by intro u hu; simp at hu; subst hu; rfl) (by simp only [maxLen]; omega) (by omega) hbase ?_
  · refine ⟨rfl, fun _ => ⟨_, rfl, by simp, fun j u hu => ?_⟩⟩
    have hadd : (⟨g, 0, none⟩ : Addr).add j = ⟨g, j, none⟩ := by unfold Addr.add; split <;> simp_all
    rw [hadd]
    obtain rfl : j = 0 := by
      have := (List.getElem?_eq_some_iff.1 hu).1
      simpa using this
    simp at hu
    subst hu
    exact hg
  · intro v' w' h1 h2 h5
    have h1' : SRow w' base v' (L ++ [T]) := orow_join h1 _ (by simp) (by simp [flat, encS])
    obtain ⟨A', c', hv, _⟩ := orow_form h1'
    have e : (L ++ [T]).length = L.length + 1 := by simp
    rw [e] at hv
    subst hv
    exact h A' c' w' (Lib.hid h1') h2 h5
/-- append of one text, in a region that keeps its order -/
theorem wpListIn_append_sv {F : Fence} {n0 : Nat} {ops : Array Oper} {rest : List Oper} {o : Oper} {a : Act} {w : World} {Q : Exit → Act → World → Prop} {base : Nat} {A : Option Addr} {j c : Nat} {L : List ByteArray} (hgd : o.guard = none) (s x : Operand)
    (ho : o.op = .call { callee := .builtin .append, args := #[s, x], argTypes := #[22, 22] })
    (hs : a.eval s = .slice A j c) (hown : SRow w base (.slice A j c) L) (hj : L.length = j) (g : Nat) (T : ByteArray) (hx : a.eval x = .slice (some ⟨g, 0, none⟩) 1 1) (hg : w.cell? ⟨g, 0, none⟩ = some (.string T)) (hz : j ≤ 1000) (hbase : base ≤ w.heap.size)
    (h : ∀ A' c' w', Hid (SRow w' base (.slice A' (j + 1) c') (L ++ [T])) → w.grownBy w' (Value.slice A j c).ownBlock → ((Value.slice A' (j + 1) c').ownBlock = (Value.slice A j c).ownBlock ∨ (Value.slice A' (j + 1) c').ownBlock = some w.heap.size) → wpListIn F n0 Tryd.prog ops Q rest (a.put o.dst (.slice A' (j + 1) c')) w') : wpListIn F n0 Tryd.prog ops Q (o :: rest) a w := by
  obtain ⟨i0, hi0, hz0, hz1, hz2⟩ := info_parts str_info3
  subst hj
  refine wpListIn_append_own_at w hgd s x _ ho base _ i0 _ 1 16 Tryd.underlying22 hi0 hz0 hz1 hz2 rfl (by omega) _ L.length (flat encS L) hs hown ⟨g, 0, none⟩ 1 1 [.string T] hx rfl ?_ (by intro u hu; simp at hu; subst hu; rfl) (by simp only [maxLen]; omega) (by omega) hbase ?_
  · intro j u hu
    have hadd : (⟨g, 0, none⟩ : Addr).add j = ⟨g, j, none⟩ := by unfold Addr.add; split <;> simp_all
    rw [hadd]
    obtain rfl : j = 0 := by
      have := (List.getElem?_eq_some_iff.1 hu).1
      simpa using this
    simp at hu
    subst hu
    exact hg
  · intro v' w' h1 h2 _ h5
    have h1' : SRow w' base v' (L ++ [T]) := orow_join h1 _ (by simp) (by simp [flat, encS])
    obtain ⟨A', c', hv, _⟩ := orow_form h1'
    have e : (L ++ [T]).length = L.length + 1 := by simp
    rw [e] at hv
    subst hv
    exact h A' c' w' (Lib.hid h1') h2 h5
theorem srow_put {W : World} {base : Nat} {v : Value} {L : List ByteArray} (h : SRow W base v L) {D : Nat} {o : Obj} (hD : W.heap[D]? = some o) (hc : o.isCells = false) (o' : Obj) : SRow (W.putObj D o') base v L :=
  srow_kept h (grownBy_putObj' W D o') (by
    cases hv : v.ownBlock with
    | none => exact .inl rfl
    | some g =>
      refine .inr (fun e => ?_)
      injection e with e
      subst e
      have := srow_kc h _ _ hv hD
      rw [hc] at this
      cases this)
/-- what a box of a record tells at the end -/
theorem rec_load {W : World} {g : Nat} {e k : Int} {A A' : Option Addr} {n c n' d : Nat} (h : Blk W g 24 #[.int .i64 e, .int .i64 k, .slice A n c, .slice A' n' d]) : (loadVar 24 ⟨g, 0, none⟩).run Tryd.prog W = .ok (.agg #[.int .i64 e, .int .i64 k, .slice A n c, .slice A' n' d]) W :=
  run_loadVar_row (P := Tryd.prog) W g 24 24 #[.int .i64 e, .int .i64 k, .slice A n c, .slice A' n' d] (0, 0) _ h Tryd.underlying24 rfl (by kernel_rfl)
/-- the rounds of read -/
def RD (w : World) (r : Rec) (W : World) (pre : List ByteArray) : Prop :=
  Below w.heap.size w W ∧ w.heap.size + 1 + 1 + 1 + 1 ≤ W.heap.size ∧ Blk W w.heap.size 24 #[.int .i64 0, .int .i64 0, .slice none 0 0, .slice none 0 0] ∧
  ((pre = [] ∧ Blk W (w.heap.size + 1) 24 #[.int .i64 0, .int .i64 0, .slice none 0 0, .slice none 0 0] ∧ Blk W (w.heap.size + 1 + 1) 4 #[.bool true]) ∨
   (∃ (j c d : Nat) (A A' : Option Addr), pre = linesTo r j ∧ j ≤ r.names.length ∧ Blk W (w.heap.size + 1) 24 #[.int .i64 r.epoch, .int .i64 r.k, .slice A j c, .slice A' j d] ∧ Blk W (w.heap.size + 1 + 1) 4 #[.bool false] ∧
      SRow W (w.heap.size + 1 + 1 + 1 + 1) (.slice A j c) (r.names.take j) ∧ SRow W (w.heap.size + 1 + 1 + 1 + 1) (.slice A' j d) (r.pledges.take j) ∧ (∀ g, (Value.slice A j c).ownBlock = some g → (Value.slice A' j d).ownBlock ≠ some g)))
/-- what leaves the rounds' state as it was -/
theorem RD.turn {w W W' : World} {r : Rec} {pre : List ByteArray} {row : Option Nat} (h : RD w r W pre) (hg : W.grownBy W' row) (h0 : ∀ k, row = some k → w.heap.size + 1 + 1 + 1 ≤ k) (hne : ∀ k, row = some k → k = w.heap.size + 1 + 1 + 1 ∨ ∃ o : Obj, W.heap[k]? = some o ∧ o.isCells = false) : RD w r W' pre := by
  obtain ⟨h1, h2, h3, h4⟩ := h
  have hk : ∀ {g : Nat} {t : TypeId} {cs : Array Value}, g < w.heap.size + 1 + 1 + 1 → Blk W g t cs → Blk W' g t cs := fun hlt hb => hb.grown hg (fun e => by have := h0 _ e.symm; omega)
  have hs : ∀ {v : Value} {L : List ByteArray}, SRow W (w.heap.size + 1 + 1 + 1 + 1) v L → SRow W' (w.heap.size + 1 + 1 + 1 + 1) v L := fun {v L} hb => srow_kept hb hg (by
    cases ho : v.ownBlock with
    | none => exact .inl rfl
    | some g =>
      refine .inr (fun e => ?_)
      obtain ⟨k1, k2⟩ := orow_lt hb ho
      rcases hne g e.symm with k3 | ⟨o, k3, k4⟩
      · omega
      · obtain ⟨o', k5, k6⟩ := srow_cells hb ho
        rw [k3] at k5
        injection k5 with k5
        subst k5
        rw [k4] at k6
        cases k6)
  refine ⟨h1.grown hg h1.size (fun k e => by have := h0 k e; omega), Nat.le_trans h2 hg.size, hk (by omega) h3, ?_⟩
  rcases h4 with ⟨e, k1, k2⟩ | ⟨j, c, d, A, A', e, hj, k1, k2, k3, k4, k5⟩
  · exact .inl ⟨e, hk (by omega) k1, hk (by omega) k2⟩
  · exact .inr ⟨j, c, d, A, A', e, hj, hk (by omega) k1, hk (by omega) k2, hs k3, hs k4, k5⟩
set_option maxHeartbeats 4000000 in
set_option maxRecDepth 100000 in
theorem mread_good (e k : Nat) (names pledges : List ByteArray) (s : ByteArray) (w : World) (hck : checkB ⟨(e : Int), (k : Int), names, pledges⟩ = true) (hs : printB ⟨e, k, names, pledges⟩ = s) :
    Calls Tryd.prog 37 #[.string s] w fun e' w' => ∃ (A A' : Option Addr) (c d : Nat), e' = .returned (.agg #[.int .i64 e, .int .i64 k, .slice A names.length c, .slice A' names.length d]) ∧ Hid (SRow w' w.heap.size (.slice A names.length c) names) ∧ Hid (SRow w' w.heap.size (.slice A' names.length d) pledges) ∧ Below w.heap.size w w' := by
  obtain ⟨⟨he1, he2, hn1, hn16, hlp, hk1, hk2⟩, hpl⟩ := (checkB_iff _).1 hck
  simp only at he1 he2 hn1 hn16 hlp hk1 hk2
  have HLO := Lib.hid (lines_ok hck)
  have HPL := Lib.hid hpl
  have HS := Lib.hid hs
  have he3 : e ≤ 1000000 := by omega
  have hk3 : k ≤ 1000000 := by omega
  have hll : (linesL ⟨(e : Int), (k : Int), names, pledges⟩).length = names.length + 1 := by
    show (List.zipWith lineAt names pledges).length + 1 = _
    rw [List.length_zipWith]
    omega
  have HLL := Lib.hid (And.intro hll hlp)
  clear hck hs hpl he1 he2 hk1 hk2 hlp hll
  refine (callsIn_wide (n := 10)).1 ?_
  refine callsIn_of_wp_marks Tryd.func37 rfl trivial ?_ rfl
  simp only [Tryd.ntmps37, List.size_toArray, List.length_cons, List.length_nil, Nat.reduceAdd, Nat.reduceSub, Array.replicate_succ, Array.replicate_zero, List.push_toArray, List.append_toArray, List.nil_append, List.cons_append]
  gi_wp2_with fail
  refine ⟨trivial, ?_⟩
  gi_at_call 56
  refine (mlines_in Fence.wide _ trivial rfl s _).mono ?_
  rintro e' w3 ⟨rfl, rfl⟩
  gi_wp2_with fail
  have hS0 : RD w ⟨e, k, names, pledges⟩ ((((w.alloc (.cells #[.int .i64 0, .int .i64 0, .slice none 0 0, .slice none 0 0] 24)).alloc (.cells #[.int .i64 0, .int .i64 0, .slice none 0 0, .slice none 0 0] 24)).alloc (.cells #[.bool true] 4)).alloc (.cells #[.string s] 9)) [] := by
    refine ⟨by go_grown, by simp, (((Blk.new w _ _).alloc _).alloc _).alloc _, .inl ⟨rfl, ?_, ?_⟩⟩
    · exact ((Blk.new_at (g := w.heap.size + 1) (by simp) _ _).alloc _).alloc _
    · exact (Blk.new_at (g := w.heap.size + 1 + 1) (by simp) _ _).alloc _
  have hL0 : Blk ((((w.alloc (.cells #[.int .i64 0, .int .i64 0, .slice none 0 0, .slice none 0 0] 24)).alloc (.cells #[.int .i64 0, .int .i64 0, .slice none 0 0, .slice none 0 0] 24)).alloc (.cells #[.bool true] 4)).alloc (.cells #[.string s] 9)) (w.heap.size + 1 + 1 + 1) 9 #[.string ⟨(catT (linesL ⟨(e : Int), (k : Int), names, pledges⟩)).toArray⟩] := by
    have hx : (⟨(catT (linesL ⟨(e : Int), (k : Int), names, pledges⟩)).toArray⟩ : ByteArray) = s := HS.out
    rw [hx]
    exact Blk.new_at (g := w.heap.size + 1 + 1 + 1) (by simp) _ _
  have hsz0 : ((((w.alloc (.cells #[.int .i64 0, .int .i64 0, .slice none 0 0, .slice none 0 0] 24)).alloc (.cells #[.int .i64 0, .int .i64 0, .slice none 0 0, .slice none 0 0] 24)).alloc (.cells #[.bool true] 4)).alloc (.cells #[.string s] 9)).heap.size = w.heap.size + 1 + 1 + 1 + 1 := by simp
  generalize ((((w.alloc (.cells #[.int .i64 0, .int .i64 0, .slice none 0 0, .slice none 0 0] 24)).alloc (.cells #[.int .i64 0, .int .i64 0, .slice none 0 0, .slice none 0 0] 24)).alloc (.cells #[.bool true] 4)).alloc (.cells #[.string s] 9)) = W0 at hS0 hL0 hsz0 ⊢
  have HS0 := Lib.hid hS0
  have HL0 := Lib.hid hL0
  clear hS0 hL0
  refine wpIn_rangeFunc_turnN (α := ByteArray) rfl (by omega) (gf := 73) (lb := #[.pointer (some ⟨w.heap.size + 1 + 1 + 1, 0, none⟩)]) rfl trivial (enters_of Tryd.func73 (by kernel_rfl) rfl)
    (encs := fun x => #[.string x]) (S := fun xs => xs = linesL ⟨(e : Int), (k : Int), names, pledges⟩) (Nx := fun pre x => (linesL ⟨(e : Int), (k : Int), names, pledges⟩)[pre.length]? = some x) (Tn := TnL (w.heap.size + 1 + 1 + 1)) (Kp := Kept (w.heap.size + 1 + 1 + 1)) (N := (linesL ⟨(e : Int), (k : Int), names, pledges⟩).length)
    ?seq (fun _ => rfl) Kept.trans (fun W l o' hl => World.putObj_heap_other (by omega)) (fun A B h i hi => h.2.2.2.2 i (by omega)) (fun pre W => RD w ⟨e, k, names, pledges⟩ W pre)
    (fun st W W' row hs hg hr => RD.turn hs hg (fun k hk => by have := (hr k hk).1; omega) (fun k hk => .inr (hr k hk).2))
    (fun st A B hs ht => RD.turn (row := some (w.heap.size + 1 + 1 + 1)) hs ⟨ht.1, ht.2.1, ht.2.2.1, ht.2.2.2.1, fun i _ hne => ht.2.2.2.2 i (fun e => hne (by rw [e]))⟩ (fun k hk => by injection hk with hk; omega) (fun k hk => .inl (by injection hk with hk; exact hk.symm)))
    HS0.out (fun x => { tmps := #[.string s, undef, .pointer (some ⟨w.heap.size, 0, none⟩), .pointer (some ⟨w.heap.size + 1, 0, none⟩), .pointer (some ⟨w.heap.size + 1 + 1, 0, none⟩), .string x, undef, undef, undef, undef, undef, undef, undef, .string s, .func (.func 73) #[] #[.pointer (some ⟨w.heap.size + 1 + 1 + 1, 0, none⟩)], .string x, undef, undef, undef, undef, undef, undef, undef, undef, undef, undef, undef, undef, undef, undef, undef, undef, undef, undef, undef, undef, undef, undef, undef, undef, undef, undef, undef, undef, undef, undef, undef, undef, undef, undef, undef, undef, undef, undef, undef, undef, undef, undef, undef, undef, undef, undef, undef, undef, undef], defers := [] }) ?assign ?body ?done
  case seq =>
    intro l J W hb hJt hY h0
    exact mlines1_in _ (by omega) l (w.heap.size + 1 + 1 + 1) (linesL ⟨(e : Int), (k : Int), names, pledges⟩) (fun s hs => (HLO.out s hs).1) (by have h1 := catT_le _ (fun s hs => (HLO.out s hs).2); have h2 := HLL.out.1; omega) J hJt hY W (HL0.out.below hb (by omega)) h0
  case assign =>
    rintro l x W K hK
    gi_wp2
    exact hK
  case body =>
    rintro l pre x W hl _ ⟨hB, hsz, hres, hI⟩ hlt hx
    rcases hI with ⟨rfl, hbr, hbf⟩ | ⟨j, c, d, A, A', rfl, hj, hbr, hbf, hsn, hsp, hdis⟩
    · have hx0 : x = line0 ⟨(e : Int), (k : Int), names, pledges⟩ := by
        have : (linesL ⟨(e : Int), (k : Int), names, pledges⟩)[0]? = some x := hx
        unfold linesL at this
        simpa using this.symm
      obtain ⟨x1, x2, x3⟩ := line0_cut ⟨(e : Int), (k : Int), names, pledges⟩
      rw [← hx0] at x1 x2 x3
      have hxs : x.size ≤ 100 := (HLO.out x (List.mem_of_getElem? hx)).2
      have HPX := Lib.hid (fun W => prefix_good x _ W (by omega) x3 x1 x2)
      have hcn := cut_nums ⟨(e : Int), (k : Int), names, pledges⟩
      have hns : (numsT ⟨(e : Int), (k : Int), names, pledges⟩).size ≤ 100 := by rw [← x2, ByteArray.size_extract]; omega
      simp only [Int.toNat_natCast] at hcn
      have HCN := Lib.hid (fun W => cut_any (numsT ⟨(e : Int), (k : Int), names, pledges⟩) 32 W (by omega))
      rw [hcn] at HCN
      have HN1 := Lib.hid (fun W => number_good e W he3)
      have HN2 := Lib.hid (fun W => number_good k W hk3)
      have c0 := hbf.cells 0 _ rfl
      simp only [List.getElem_toArray, List.getElem_cons_zero] at c0
      have HBR := Lib.hid hbr
      have HBF := Lib.hid hbf
      have HRE := Lib.hid hres
      have HX0 := Lib.hid hx0
      generalize numsT ⟨(e : Int), (k : Int), names, pledges⟩ = NT at *
      generalize digB e = De at *
      generalize digB k = Dk at *
      clear x1 x2 x3 hcn hbr hbf hres hx0 hx
      gi_wp2_with fail
      refine ⟨trivial, ?_⟩
      gi_at_call 57
      refine (CallsIn.inRound l (callsIn_wide.2 (HPX.out _))).mono ?_
      rintro e' W1 ⟨rfl, hw1⟩
      gi_wp2_with fail
      refine ⟨trivial, ?_⟩
      gi_at_call 38
      refine (CallsIn.inRound l (callsIn_wide.2 (must_true _))).mono ?_
      rintro e' W2 ⟨rfl, rfl⟩
      gi_wp2_with fail
      refine ⟨trivial, ?_⟩
      gi_at_call 58
      refine (CallsIn.inRound l (callsIn_wide.2 (HCN.out _))).mono ?_
      rintro e' W2 ⟨rfl, hw2⟩
      gi_wp2_with fail
      refine ⟨trivial, ?_⟩
      gi_at_call 38
      refine (CallsIn.inRound l (callsIn_wide.2 (must_true _))).mono ?_
      rintro e' W3 ⟨rfl, rfl⟩
      gi_wp2_with fail
      refine ⟨trivial, ?_⟩
      gi_at_call 59
      refine (CallsIn.inRound l (callsIn_wide.2 (HN1.out _))).mono ?_
      rintro e' W3 ⟨rfl, hw3⟩
      gi_wp2_with fail
      refine ⟨trivial, ?_⟩
      gi_at_call 59
      refine (CallsIn.inRound l (callsIn_wide.2 (HN2.out _))).mono ?_
      rintro e' W4 ⟨rfl, hw4⟩
      have hB4 : Below W.heap.size W W4 := by
        have h1 : W2.heap.size = W.heap.size := by rw [(hw1.trans hw2).2.2.2]
        exact (hw1.trans hw2).below.trans ((hw3.mono (by omega)).trans (hw4.mono (by have := hw3.size; omega)))
      have hb4 := HBR.out.below hB4 HBR.out.lt
      have hf4 := HBF.out.below hB4 HBF.out.lt
      have hr4 := HRE.out.below hB4 HRE.out.lt
      have c0 := hb4.cells 0 _ rfl
      have c1 := hb4.cells 1 _ rfl
      have c2 := hf4.cells 0 _ rfl
      have f0 := hb4.frozen
      have f1 := hf4.frozen
      have l0 := hb4.lt
      have l1 := hf4.lt
      simp only [List.getElem_toArray, List.getElem_cons_zero, List.getElem_cons_succ] at c0 c1 c2
      have hE : KeepsFrom (w.heap.size + 1 + 1 + 1 + 1) W (((W4.setCell ⟨w.heap.size + 1, 0, none⟩ (.int .i64 e)).setCell ⟨w.heap.size + 1, 1, none⟩ (.int .i64 k)).setCell ⟨w.heap.size + 1 + 1, 0, none⟩ (.bool false)) :=
        (KeepsFrom.of_grownBy (row := none) ⟨hB4.os, hB4.tape, hB4.output, hB4.size, fun k hk _ => hB4.block k hk⟩ (fun _ e => by cases e)).trans (((kf_set (by omega) _ _).trans (kf_set (by omega) _ _)).trans (kf_set (by omega) _ _))
      have hK : Kept (w.heap.size + 1 + 1 + 1) W (((W4.setCell ⟨w.heap.size + 1, 0, none⟩ (.int .i64 e)).setCell ⟨w.heap.size + 1, 1, none⟩ (.int .i64 k)).setCell ⟨w.heap.size + 1 + 1, 0, none⟩ (.bool false)) :=
        (((Kept.below hB4 (by omega)).trans (Kept.setCell (by omega) _ _)).trans (Kept.setCell (by omega) _ _)).trans (Kept.setCell (by omega) _ _)
      have hR : RD w ⟨e, k, names, pledges⟩ (((W4.setCell ⟨w.heap.size + 1, 0, none⟩ (.int .i64 e)).setCell ⟨w.heap.size + 1, 1, none⟩ (.int .i64 k)).setCell ⟨w.heap.size + 1 + 1, 0, none⟩ (.bool false)) [x] := by
        refine ⟨(((hB.trans (hB4.mono (by omega))).setCell (by simp <;> omega) _).setCell (by simp <;> omega) _).setCell (by simp <;> omega) _, by simp; have := hB4.size; omega, ((hr4.far (by show _ ≠ _; simp <;> omega) _).far (by show _ ≠ _; simp <;> omega) _).far (by show _ ≠ _; simp <;> omega) _, .inr ⟨0, 0, 0, none, none, ?_, Nat.zero_le _, ?_, ?_, ?_, ?_, ?_⟩⟩
        · rw [HX0.out]; rfl
        · exact ((hb4.set_ 0 _).set_ 1 _).far (by show _ ≠ _; simp) _
        · exact ((hf4.far (by show _ ≠ _; simp) _).far (by show _ ≠ _; simp) _).set_ 0 _
        · exact srow_nil _ _
        · exact srow_nil _ _
        · intro g hg; cases hg
      have HE := Lib.hid (And.intro hE (And.intro hK hR))
      clear hw1 hw2 hw3 hw4 hB4 hb4 hf4 hr4 hE hK hR
      gi_wp2_with fail
      exact HE.out
    · have hlen : (linesTo ⟨(e : Int), (k : Int), names, pledges⟩ j).length = j + 1 := by
        unfold linesTo
        rw [List.length_cons, List.length_take, List.length_zipWith]
        have h2 : pledges.length = names.length := HLL.out.2
        have h3 : j ≤ names.length := hj
        show min j (min names.length pledges.length) + 1 = j + 1
        omega
      rw [hlen] at hx hlt
      have hjn : j < names.length := by have := HLL.out.1; omega
      have hjp : j < pledges.length := by have := HLL.out.2; omega
      obtain ⟨nm, hnm⟩ : ∃ nm, names[j]? = some nm := ⟨_, List.getElem?_eq_getElem hjn⟩
      obtain ⟨pl, hplj⟩ : ∃ pl, pledges[j]? = some pl := ⟨_, List.getElem?_eq_getElem hjp⟩
      have hxe : x = lineAt nm pl := by
        unfold linesL at hx
        rw [List.getElem?_cons_succ, List.getElem?_zipWith] at hx
        simp only [hnm, hplj] at hx
        exact (Option.some.inj hx).symm
      have hat := HPL.out j hjn
      unfold placeB at hat
      simp only [mgetD_at hnm, mgetD_at hplj, Bool.and_eq_true, decide_eq_true_eq] at hat
      have hnb : nameB nm = true := hat.1
      have hpz : pl.size = 32 := hat.2.1
      have hcl := cut_line nm pl hnb
      rw [← hxe] at hcl
      have hxs : x.size ≤ 100 := (HLO.out x (List.mem_of_getElem? hx)).2
      have HCL := Lib.hid (fun W => cut_any x 32 W (by omega))
      rw [hcl] at HCL
      have HUN := Lib.hid (fun W => unhex_good pl _ W hpz rfl)
      have HLT : Hid (linesTo ⟨(e : Int), (k : Int), names, pledges⟩ j ++ [x] = linesTo ⟨(e : Int), (k : Int), names, pledges⟩ (j + 1)) := Lib.hid (by rw [hxe]; exact linesTo_snoc hnm hplj)
      obtain ⟨hm, hhm⟩ : ∃ hm, hexM pl = hm := ⟨_, rfl⟩
      rw [hhm] at HCL HUN
      have c0 := hbf.cells 0 _ rfl
      have c1 := hbr.cells 2 _ rfl
      have c2 := hbr.cells 3 _ rfl
      have l0 := hbf.lt
      have l1 := hbr.lt
      simp only [List.getElem_toArray, List.getElem_cons_zero, List.getElem_cons_succ] at c0 c1 c2
      have hj16 : j < 16 := by omega
      have hmust : decide ((j : Int) < 16) = true := by simp; omega
      have hmust2 : decide (j < 16) = true := by simp; omega
      have HBR := Lib.hid hbr
      have HBF := Lib.hid hbf
      have HRE := Lib.hid hres
      have HSN := Lib.hid hsn
      have HSP := Lib.hid hsp
      have HDI := Lib.hid hdis
      have HNP := Lib.hid (And.intro hnm hplj)
      clear hbr hbf hres hsn hsp hdis hnm hplj hxe hat hcl hx hhm hlt hnb hpz hj hlen
      gi_wp2_with fail
      refine ⟨trivial, ?_⟩
      gi_at_call 38
      refine (CallsIn.inRound l (callsIn_wide.2 (must_true _))).mono ?_
      rintro e' W1 ⟨rfl, rfl⟩
      gi_wp2_with fail
      refine ⟨trivial, ?_⟩
      gi_at_call 58
      refine (CallsIn.inRound l (callsIn_wide.2 (HCL.out _))).mono ?_
      rintro e' W1 ⟨rfl, hw1⟩
      gi_wp2_with fail
      refine ⟨trivial, ?_⟩
      gi_at_call 38
      refine (CallsIn.inRound l (callsIn_wide.2 (must_true _))).mono ?_
      rintro e' W2 ⟨rfl, rfl⟩
      have hB1 := hw1.below (B0 := W.heap.size)
      have hz1 : W1.heap.size = W.heap.size := by rw [hw1.2.2.2]
      have hg1 : W.grownBy W1 none := ⟨hB1.os, hB1.tape, hB1.output, hB1.size, fun k hk _ => hB1.block k hk⟩
      have HSP1 := Lib.hid (orow_alloc (srow_kept HSP.out hg1 (Classical.em _)) (.cells #[.string nm] 9))
      have HRE1 := Lib.hid ((HRE.out.below hB1 (by omega)).alloc (.cells #[.string nm] 9))
      have HBF1 := Lib.hid ((HBF.out.below hB1 l0).alloc (.cells #[.string nm] 9))
      have HSN1 := Lib.hid (orow_alloc (srow_kept HSN.out hg1 (Classical.em _)) (.cells #[.string nm] 9))
      have hb1 := HBR.out.below hB1 l1
      have HKE : Hid (KeepsFrom (w.heap.size + 1 + 1 + 1 + 1) W W1) := Lib.hid (KeepsFrom.of_grownBy hg1 (fun _ e => by cases e))
      have c1 := hb1.cells 2 _ rfl
      have f1 := hb1.frozen
      simp only [List.getElem_toArray, List.getElem_cons_zero, List.getElem_cons_succ] at c1
      have hl1 : w.heap.size + 1 < W1.heap.size := by omega
      have HTL : Hid ((names.take j).length = j) := Lib.hid (by rw [List.length_take]; omega)
      have hcn : (W1.alloc (.cells #[.string nm] 9)).cell? ⟨W1.heap.size, 0, none⟩ = some (.string nm) := by
        have := (Blk.new W1 9 #[.string nm]).cells 0 _ rfl
        simp at this
        simp [this]
      have HCN := Lib.hid hcn
      have HZ1 := Lib.hid hz1
      have hz2 : w.heap.size + 1 + 1 + 1 + 1 ≤ W1.heap.size := by omega
      clear hcn hz1
      gi_wp2_with (gi_at_builtin; refine wpListIn_append_sv rfl (.tmp 52) (.tmp 54) rfl rfl HSN1.out HTL.out W1.heap.size nm rfl HCN.out (by omega) (by simp; omega) ?_; intro A4 c4 w4 HR4 hg4 hne4; have hk4 := (hb1.alloc (.cells #[.string nm] 9)).grown hg4 (fun e => by have := (orow_lt HSN1.out e.symm).1; omega); have r0 := hk4.cells 2 _ rfl; have f0 := hk4.frozen; simp only [List.getElem_toArray, List.getElem_cons_zero, List.getElem_cons_succ] at r0)
      have hb4 : ∀ k, Value.ownBlock (.slice A j c) = some k → w.heap.size + 1 + 1 + 1 + 1 ≤ k ∧ k < W.heap.size := fun k e => orow_lt HSN.out e
      have hw4 : ∀ {g : Nat} {t : TypeId} {cs : Array Value}, g < w.heap.size + 1 + 1 + 1 + 1 → Blk (W1.alloc (.cells #[.string nm] 9)) g t cs → Blk w4 g t cs := fun hlt hb => hb.grown hg4 (fun e => by have := (hb4 _ e.symm).1; omega)
      have hp4 : SRow w4 (w.heap.size + 1 + 1 + 1 + 1) (.slice A' j d) (pledges.take j) := srow_kept HSP1.out hg4 (by
        cases hv : Value.ownBlock (.slice A' j d) with
        | none => exact .inl rfl
        | some g => exact .inr (fun e => HDI.out g e.symm hv))
      have hd4 : ∀ g, Value.ownBlock (.slice A4 (j + 1) c4) = some g → Value.ownBlock (.slice A' j d) ≠ some g := by
        intro g hg hg'
        rcases hne4 with e | e
        · exact HDI.out g (e.symm.trans hg) hg'
        · rw [hg] at e
          injection e with e
          have h1 := (orow_lt HSP.out hg').2
          have h2 := HZ1.out
          simp at e
          omega
      have hz5 : W1.heap.size + 1 ≤ w4.heap.size := by have := hg4.size; simpa using this
      have hk5 := hk4.set_ 2 (.slice A4 (j + 1) c4)
      have hr5 : SRow (w4.setCell ⟨w.heap.size + 1, 2, none⟩ (.slice A4 (j + 1) c4)) (w.heap.size + 1 + 1 + 1 + 1) (.slice A4 (j + 1) c4) (names.take j ++ [nm]) := orow_far HR4.out hk4 (by decide) 2 _
      have hp5 : SRow (w4.setCell ⟨w.heap.size + 1, 2, none⟩ (.slice A4 (j + 1) c4)) (w.heap.size + 1 + 1 + 1 + 1) (.slice A' j d) (pledges.take j) := orow_far hp4 hk4 (by decide) 2 _
      have hR5 : Blk (w4.setCell ⟨w.heap.size + 1, 2, none⟩ (.slice A4 (j + 1) c4)) w.heap.size 24 #[.int .i64 0, .int .i64 0, .slice none 0 0, .slice none 0 0] := (hw4 (by omega) HRE1.out).far (by show _ ≠ _; simp <;> omega) _
      have hF5 : Blk (w4.setCell ⟨w.heap.size + 1, 2, none⟩ (.slice A4 (j + 1) c4)) (w.heap.size + 1 + 1) 4 #[.bool false] := (hw4 (by omega) HBF1.out).far (by show _ ≠ _; simp <;> omega) _
      have hB5 : Below w.heap.size w (w4.setCell ⟨w.heap.size + 1, 2, none⟩ (.slice A4 (j + 1) c4)) := (((hB.trans (hB1.mono (by omega))).alloc (by omega) _).grown hg4 (by simp; omega) (fun k e => by have := (hb4 k e).1; omega)).setCell (by simp <;> omega) _
      have hE5 : KeepsFrom (w.heap.size + 1 + 1 + 1 + 1) W (w4.setCell ⟨w.heap.size + 1, 2, none⟩ (.slice A4 (j + 1) c4)) := HKE.out.trans ((((KeepsOthers.alloc _ _).trans (KeepsOthers.of_grownBy hg4 (srow_kc HSN1.out))).trans (KeepsOthers.setCell _ _ _)).from _)
      have hP5 : Kept (w.heap.size + 1 + 1 + 1) W (w4.setCell ⟨w.heap.size + 1, 2, none⟩ (.slice A4 (j + 1) c4)) :=
        ((Kept.below hB1 (by omega)).trans ((show Kept (w.heap.size + 1 + 1 + 1) W1 (W1.alloc (.cells #[.string nm] 9)) from Below.heap_alloc W1 _ _ (by omega)))).trans ((show Kept (w.heap.size + 1 + 1 + 1) (W1.alloc (.cells #[.string nm] 9)) w4 from hg4.block _ (by simp; omega) (fun e => by have := (hb4 _ e.symm).1; omega)).trans (Kept.setCell (by omega) _ _))
      have HF5 := Lib.hid (And.intro hr5 (And.intro hp5 (And.intro hR5 (And.intro hF5 (And.intro hB5 (And.intro hE5 (And.intro hP5 hd4)))))))
      have hs5 : W.heap.size + 1 ≤ (w4.setCell ⟨w.heap.size + 1, 2, none⟩ (.slice A4 (j + 1) c4)).heap.size := by have := HZ1.out; simp; omega
      clear hb4 hw4 hp4 hd4 hr5 hp5 hR5 hF5 hB5 hE5 hP5 HR4 hg4 hne4 hk4 r0 f0
      generalize hW5 : w4.setCell ⟨w.heap.size + 1, 2, none⟩ (.slice A4 (j + 1) c4) = W5 at *
      have HW5 := Lib.hid hW5
      have q3 := hk5.cells 3 _ rfl
      simp only [List.getElem_toArray, List.getElem_cons_zero, List.getElem_cons_succ, List.setIfInBounds_toArray, List.set_cons_zero, List.set_cons_succ] at q3
      have HK5 := Lib.hid hk5
      have hl5 := hk5.lt
      clear hW5 hk5 c1 f1 hb1 c0 c2
      refine wpIn_round_Z 7 (fun W => W.cell? ⟨w.heap.size + 1, 3, none⟩ = some (.slice A' j d)) (by kernel_rfl) (by kernel_rfl) ?_
      have hHeld : W5.drew.cell? ⟨w.heap.size + 1, 3, none⟩ = some (.slice A' j d) := q3
      refine wpAnyZ_take (i := 0) (v := ?zv1) _ rfl (by kernel_rfl) (by kernel_rfl) (fun _ _ _ h => h) _ _ _ (by kernel_rfl) (by kernel_rfl) (Or.inl ⟨by rfl, ?zh1⟩) (by assumption) ?zr1
      case zh1 => (intro w hSw; (try dsimp only at hSw); go_simp; try with_reducible rfl)
      simp only [Act.put, List.setIfInBounds_toArray, List.set_cons_zero, List.set_cons_succ]
      refine wpAnyZ_take (i := 1) (v := ?zv2) _ rfl (by kernel_rfl) (by kernel_rfl) (fun _ _ _ h => h) _ _ _ (by kernel_rfl) (by kernel_rfl) (Or.inl ⟨by rfl, ?zh2⟩) (by assumption) ?zr2
      case zh2 => (intro w hSw; (try dsimp only at hSw); go_simp; try with_reducible rfl)
      simp only [Act.put, List.setIfInBounds_toArray, List.set_cons_zero, List.set_cons_succ]
      refine wpAnyZ_take (i := 2) (v := ?zv3) _ rfl (by kernel_rfl) (by kernel_rfl) (fun _ _ _ h => h) _ _ _ (by kernel_rfl) (by kernel_rfl) (Or.inl ⟨by rfl, ?zh3⟩) (by assumption) ?zr3
      case zh3 => (intro w hSw; (try dsimp only at hSw); go_simp; try with_reducible rfl)
      simp only [Act.put, List.setIfInBounds_toArray, List.set_cons_zero, List.set_cons_succ]
      refine wpAnyZ_ready (rs := [3]) (by kernel_rfl) (by simp) ?_
      refine AllReadyZ.cons rfl (by decide) (fun K hK => ?_) AllReadyZ.nil
      rw [if_pos (by rfl)]
      go_simp
      refine (HUN.out _).mono ?_
      rintro e' W6 ⟨rfl, hb6⟩
      go_simp
      have hk6 := (show Blk W5.drew _ _ _ from HK5.out).below hb6 hl5
      refine hK.out _ _ (by have := hk6.cells 3 _ rfl; simpa using this) (fun hHeld => ?_)
      clear hK K
      try simp only [Act.put, List.setIfInBounds_toArray, List.set_cons_zero, List.set_cons_succ]
      refine wpAnyZ_ready (rs := [4]) (by kernel_rfl) (by simp) ?_
      refine AllReadyZ.cons rfl (by decide) (fun K hK => ?_) AllReadyZ.nil
      rw [if_pos (by rfl)]
      simp only [List.getElem_toArray, List.getElem_cons_zero, List.getElem_cons_succ]
      go_simp
      have hka := hk6.alloc (.cells #[.string pl] 9)
      refine hK.out _ _ (by have := hka.cells 3 _ rfl; simpa using this) (fun hHeld => ?_)
      clear hK K
      try simp only [Act.put, List.setIfInBounds_toArray, List.set_cons_zero, List.set_cons_succ]
      have hp6 : SRow (W6.alloc (.cells #[.string pl] 9)) (w.heap.size + 1 + 1 + 1 + 1) (.slice A' j d) (pledges.take j) := orow_alloc (orow_below (show SRow W5.drew _ _ _ from HF5.out.2.1) hb6 (Nat.le_refl _)) _
      have hpt : (pledges.take j).length = j := by rw [List.length_take]; have := HLL.out.2; omega
      have hcp : (W6.alloc (.cells #[.string pl] 9)).cell? ⟨W6.heap.size, 0, none⟩ = some (.string pl) := by
        have := (Blk.new W6 9 #[.string pl]).cells 0 _ rfl
        simp at this
        simp [this]
      refine wpAnyZ_ready (rs := [5]) (by kernel_rfl) (by simp) ?_
      refine AllReadyZ.cons rfl (by decide) (fun K hK => ?_) AllReadyZ.nil
      rw [if_pos (by rfl)]
      simp only [List.getElem_toArray, List.getElem_cons_zero, List.getElem_cons_succ]
      refine wp_append_sv (.tmp 58) (.tmp 61) rfl rfl hp6 hpt W6.heap.size pl rfl hcp (by omega) (by have h6 := hb6.size; simp at h6; simp; omega) ?_
      intro A7 c7 w7 HR7 hg7 hne7
      have hb7 : ∀ k, Value.ownBlock (.slice A' j d) = some k → w.heap.size + 1 + 1 + 1 + 1 ≤ k ∧ k < W.heap.size := fun k e => orow_lt HSP.out e
      have hk7 := hka.grown hg7 (fun e => by have := (hb7 _ e.symm).1; omega)
      refine hK.out _ _ (by have := hk7.cells 3 _ rfl; simpa using this) (fun hHeld => ?_)
      clear hK K
      try simp only [Act.put, List.setIfInBounds_toArray, List.set_cons_zero, List.set_cons_succ]
      refine wpAnyZ_take (i := 6) (v := ?zv31) _ rfl (by kernel_rfl) (by kernel_rfl) (fun _ _ _ h => h) _ _ _ (by kernel_rfl) (by kernel_rfl) (Or.inl ⟨by rfl, ?zh31⟩) (by assumption) ?zr31
      case zh31 => (intro w hSw; (try dsimp only at hSw); go_simp; try with_reducible rfl)
      try simp only [Act.put, List.setIfInBounds_toArray, List.set_cons_zero, List.set_cons_succ]
      have r7 := hk7.cells 3 _ rfl
      have f7 := hk7.frozen
      simp only [List.getElem_toArray, List.getElem_cons_zero, List.getElem_cons_succ, List.setIfInBounds_toArray, List.set_cons_zero, List.set_cons_succ] at r7
      refine wpAnyZ_last (by kernel_rfl) rfl (by kernel_rfl) ?_
      rw [if_pos (by rfl)]
      simp only [List.getElem_toArray, List.getElem_cons_zero, List.getElem_cons_succ]
      go_simp
      refine ⟨rfl, ?_⟩
      obtain ⟨hr5, hp5, hR5, hF5, hB5, hE5, hP5, hd4⟩ := HF5.out
      have hb6k : ∀ {g : Nat} {t : TypeId} {cs : Array Value}, g < W5.heap.size → Blk W5 g t cs → Blk W6 g t cs := fun hlt hb => (show Blk W5.drew _ _ _ from hb).below hb6 hlt
      have h6 : W5.heap.size ≤ W6.heap.size := by have := hb6.size; simpa using this
      have hn6 : SRow (W6.alloc (.cells #[.string pl] 9)) (w.heap.size + 1 + 1 + 1 + 1) (.slice A4 (j + 1) c4) (names.take j ++ [nm]) := orow_alloc (orow_below (show SRow W5.drew _ _ _ from hr5) hb6 (Nat.le_refl _)) _
      have hn7 : SRow w7 (w.heap.size + 1 + 1 + 1 + 1) (.slice A4 (j + 1) c4) (names.take j ++ [nm]) := srow_kept hn6 hg7 (by
        cases hv : Value.ownBlock (.slice A4 (j + 1) c4) with
        | none => exact .inl rfl
        | some g => exact .inr (fun e => hd4 g hv e.symm))
      have hw7 : ∀ {g : Nat} {t : TypeId} {cs : Array Value}, g < w.heap.size + 1 + 1 + 1 + 1 → Blk W5 g t cs → Blk w7 g t cs := fun hlt hb => ((hb6k (by omega) hb).alloc _).grown hg7 (fun e => by have := (hb7 _ e.symm).1; omega)
      have z1 := List.take_add_one (l := names) (i := j)
      have z2 := List.take_add_one (l := pledges) (i := j)
      rw [HNP.out.1] at z1
      rw [HNP.out.2] at z2
      have hdone : KeepsFrom (w.heap.size + 1 + 1 + 1 + 1) W (w7.setCell ⟨w.heap.size + 1, 3, none⟩ (.slice A7 (j + 1) c7)) ∧ Kept (w.heap.size + 1 + 1 + 1) W (w7.setCell ⟨w.heap.size + 1, 3, none⟩ (.slice A7 (j + 1) c7)) ∧ RD w ⟨e, k, names, pledges⟩ (w7.setCell ⟨w.heap.size + 1, 3, none⟩ (.slice A7 (j + 1) c7)) (linesTo ⟨(e : Int), (k : Int), names, pledges⟩ (j + 1)) := by
        refine ⟨?_, ?_, ?_, ?_, ?_, .inr ⟨j + 1, c4, c7, A4, A7, rfl, by show j + 1 ≤ names.length; omega, ?_, ?_, ?_, ?_, ?_⟩⟩
        · refine hE5.trans (((KeepsOthers.drew W5).from _).trans ((KeepsFrom.of_grownBy (row := none) ⟨hb6.os, hb6.tape, hb6.output, hb6.size, fun k hk _ => hb6.block k hk⟩ (fun _ e => by cases e)).trans ((((KeepsOthers.alloc _ _).trans (KeepsOthers.of_grownBy hg7 (srow_kc hp6))).trans (KeepsOthers.setCell _ _ _)).from _)))
        · refine hP5.trans (((show Kept (w.heap.size + 1 + 1 + 1) W5 W6 from hb6.block _ (by simp; omega)).trans (show Kept (w.heap.size + 1 + 1 + 1) W6 (W6.alloc (.cells #[.string pl] 9)) from Below.heap_alloc W6 _ _ (by omega))).trans ((show Kept (w.heap.size + 1 + 1 + 1) (W6.alloc (.cells #[.string pl] 9)) w7 from hg7.block _ (by simp; omega) (fun e => by have := (hb7 _ e.symm).1; omega)).trans (Kept.setCell (by omega) _ _)))
        · exact ((((hB5.trans (show Below w.heap.size W5 W6 from ⟨hb6.os, hb6.tape, hb6.output, hb6.size, fun k hk => hb6.block k (by simp; omega)⟩)).alloc (by omega) _).grown hg7 (by simp; omega) (fun k e => by have := (hb7 k e).1; omega)).setCell (by simp <;> omega) _)
        · have := hg7.size
          simp at this ⊢
          omega
        · exact (hw7 (by omega) hR5).far (by show _ ≠ _; simp <;> omega) _
        · have := hk7.set_ 3 (.slice A7 (j + 1) c7)
          simpa using this
        · exact (hw7 (by omega) hF5).far (by show _ ≠ _; simp <;> omega) _
        · rw [show names.take (j + 1) = names.take j ++ [nm] from z1]
          exact orow_far hn7 hk7 (by decide) 3 _
        · rw [show pledges.take (j + 1) = pledges.take j ++ [pl] from z2]
          exact orow_far HR7.out hk7 (by decide) 3 _
        · intro g hg hg'
          rcases hne7 with e | e
          · exact hd4 g hg (e.symm.trans hg')
          · rw [hg'] at e
            injection e with e
            have := (orow_lt hn6 hg).2
            omega
      show Exit.normal = Exit.normal ∧ KeepsFrom W0.heap.size W _ ∧ Kept (w.heap.size + 1 + 1 + 1) W _ ∧ RD w ⟨e, k, names, pledges⟩ _ (linesTo ⟨(e : Int), (k : Int), names, pledges⟩ j ++ [x])
      rw [hsz0, HLT.out]
      exact ⟨rfl, hdone⟩
  case done =>
    rintro D ys W hD rfl ⟨hB, hsz, hres, hI⟩ hK
    rcases hI with ⟨he, _⟩ | ⟨j, c, d, A, A', hj, hjn, hbr, hbf, hsn, hsp, hdis⟩
    · cases he
    · have hjn' : j ≤ names.length := hjn
      have hjl : j = names.length := by
        have h1 := congrArg List.length hj
        rw [HLL.out.1] at h1
        unfold linesTo at h1
        rw [List.length_cons, List.length_take, List.length_zipWith] at h1
        have h2 : pledges.length = names.length := HLL.out.2
        have h3 : min j (min names.length pledges.length) + 1 = names.length + 1 := h1.symm
        omega
      subst hjl
      have c0 := hbr.cells 0 _ rfl
      have c1 := hbr.cells 1 _ rfl
      have c2 := hbr.cells 2 _ rfl
      have c3 := hbr.cells 3 _ rfl
      have f0 := hres.frozen
      have d0 := hres.cells 0 _ rfl
      have d1 := hres.cells 1 _ rfl
      have d2 := hres.cells 2 _ rfl
      have d3 := hres.cells 3 _ rfl
      simp only [List.getElem_toArray, List.getElem_cons_zero, List.getElem_cons_succ] at c0 c1 c2 c3 d0 d1 d2 d3
      have l0 := hbr.lt
      have l1 := hres.lt
      have HSN := Lib.hid hsn
      have HSP := Lib.hid hsp
      have HBB := Lib.hid hB
      have HRS := Lib.hid hres
      have HBR := Lib.hid hbr
      have HK := Lib.hid hK
      clear hsn hsp hB hres hbr hbf hdis hj hjn hjn' hK
      gi_wp2_with fail
      have hs4 := ((((HRS.out.set_ 0 (.int .i64 e)).set_ 1 (.int .i64 k)).set_ 2 (.slice A names.length c)).set_ 3 (.slice A' names.length d))
      simp only [List.setIfInBounds_toArray, List.set_cons_zero, List.set_cons_succ] at hs4
      have hn4 := orow_far (orow_far (orow_far (orow_far HSN.out HRS.out (by decide) 0 (.int .i64 e)) (HRS.out.set_ 0 _) (by decide) 1 (.int .i64 k)) ((HRS.out.set_ 0 _).set_ 1 _) (by decide) 2 (.slice A names.length c)) (((HRS.out.set_ 0 _).set_ 1 _).set_ 2 _) (by decide) 3 (.slice A' names.length d)
      have hp4 := orow_far (orow_far (orow_far (orow_far HSP.out HRS.out (by decide) 0 (.int .i64 e)) (HRS.out.set_ 0 _) (by decide) 1 (.int .i64 k)) ((HRS.out.set_ 0 _).set_ 1 _) (by decide) 2 (.slice A names.length c)) (((HRS.out.set_ 0 _).set_ 1 _).set_ 2 _) (by decide) 3 (.slice A' names.length d)
      have hB4 : Below w.heap.size w ((((W.setCell ⟨w.heap.size, 0, none⟩ (.int .i64 e)).setCell ⟨w.heap.size, 1, none⟩ (.int .i64 k)).setCell ⟨w.heap.size, 2, none⟩ (.slice A names.length c)).setCell ⟨w.heap.size, 3, none⟩ (.slice A' names.length d)) :=
        (((HBB.out.setCell (Nat.le_refl _) _).setCell (Nat.le_refl _) _).setCell (Nat.le_refl _) _).setCell (Nat.le_refl _) _
      have hK4 : ((((W.setCell ⟨w.heap.size, 0, none⟩ (.int .i64 e)).setCell ⟨w.heap.size, 1, none⟩ (.int .i64 k)).setCell ⟨w.heap.size, 2, none⟩ (.slice A names.length c)).setCell ⟨w.heap.size, 3, none⟩ (.slice A' names.length d)).heap[D]? = some (.deferred (some [])) := by
        have hne : D ≠ w.heap.size := by omega
        rw [Below.heap_setCell _ _ _ _ hne, Below.heap_setCell _ _ _ _ hne, Below.heap_setCell _ _ _ _ hne, Below.heap_setCell _ _ _ _ hne]
        exact HK.out
      generalize (((W.setCell ⟨w.heap.size, 0, none⟩ (.int .i64 e)).setCell ⟨w.heap.size, 1, none⟩ (.int .i64 k)).setCell ⟨w.heap.size, 2, none⟩ (.slice A names.length c)).setCell ⟨w.heap.size, 3, none⟩ (.slice A' names.length d) = W4 at *
      have hnP : names.take names.length = names := List.take_length ..
      have hpP : pledges.take names.length = pledges := by rw [← HLL.out.2]; exact List.take_length ..
      rw [hnP] at hn4
      rw [hpP] at hp4
      refine ⟨by simp, .inl ⟨_, _, rfl, run_takeDeferred hK4, ?_⟩⟩
      have hkb := belowK_b (n₀ := W0.heap.size) (w := W0) (Nat.le_refl _) W4 D _ (.deferred none) hD hK4 rfl rfl
      have hld := rec_load (hs4.below hkb (by omega))
      refine ⟨.agg #[.int .i64 e, .int .i64 k, .slice A names.length c, .slice A' names.length d], by simp [results, Tryd.results37, asAddr, hld], A, A', c, d, rfl, Lib.hid ?_, Lib.hid ?_, ?_⟩
      · exact orow_base (srow_put hn4 hK4 rfl _) (by omega)
      · exact orow_base (srow_put hp4 hK4 rfl _) (by omega)
      · exact hB4.trans (hkb.mono (by omega))
end Go.Proofs.YtbgohcedakpnbaaDoor
