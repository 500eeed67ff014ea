/- member: the pledge that digits tell. -/
import Derived.Test.YtbgohcedakpnbaaDoorMemH
import Derived.Test.YtbgohcedakpnbaaDoorRow
import Derived.Laws.IdiomStrings
set_option linter.unusedVariables false
set_option linter.unusedSimpArgs false
namespace Go.Proofs.YtbgohcedakpnbaaDoor
open Go.RowKit Go.Shelf
/-- the bytes of which the first i digits were read -/
def stB (l : List UInt8) (i : Nat) : List UInt8 := (List.range 32).map fun j => if 2 * j + 2 ≤ i then l.getD j 0 else if 2 * j + 1 = i then UInt8.ofNat ((l.getD j 0).toNat / 16) else 0
theorem stB_len (l : List UInt8) (i : Nat) : (stB l i).length = 32 := by simp [stB]
theorem stB_get (l : List UInt8) (i j : Nat) (h : j < 32) : (stB l i)[j]? = some (if 2 * j + 2 ≤ i then l.getD j 0 else if 2 * j + 1 = i then UInt8.ofNat ((l.getD j 0).toNat / 16) else 0) := by
  unfold stB
  rw [List.getElem?_map, List.getElem?_range h]
  rfl
theorem stB_zero (l : List UInt8) : stB l 0 = List.replicate 32 0 := by
  apply List.ext_getElem?
  intro j
  by_cases h : j < 32
  · rw [stB_get l 0 j h, if_neg (by omega), if_neg (by omega), List.getElem?_replicate, if_pos h]
  · rw [List.getElem?_eq_none (by rw [stB_len]; omega), List.getElem?_eq_none (by simp; omega)]
theorem stB_all (l : List UInt8) (h : l.length = 32) : stB l 64 = l := by
  apply List.ext_getElem?
  intro j
  by_cases hj : j < 32
  · rw [stB_get l 64 j hj, if_pos (by omega), List.getElem?_eq_getElem (by omega), List.getD_eq_getElem?_getD, List.getElem?_eq_getElem (by omega)]
    rfl
  · rw [List.getElem?_eq_none (by rw [stB_len]; omega), List.getElem?_eq_none (by omega)]
theorem stB_set (l : List UInt8) (i : Nat) (h : i < 64) (v : UInt8) (hv : v = if i % 2 = 0 then UInt8.ofNat ((l.getD (i / 2) 0).toNat / 16) else l.getD (i / 2) 0) : (stB l i).set (i / 2) v = stB l (i + 1) := by
  apply List.ext_getElem?
  intro j
  by_cases hj : j < 32
  · rw [stB_get l (i + 1) j hj, List.getElem?_set, stB_len]
    by_cases e : i / 2 = j
    · rw [if_pos e, if_pos (by omega), hv, e]
      congr 1
      by_cases he : i % 2 = 0
      · rw [if_pos he, if_neg (by omega), if_pos (by omega)]
      · rw [if_neg he, if_pos (by omega)]
    · rw [if_neg e, stB_get l i j hj]
      congr 1
      by_cases h1 : 2 * j + 2 ≤ i
      · rw [if_pos h1, if_pos (by omega)]
      · rw [if_neg h1, if_neg (by omega), if_neg (by omega), if_neg (by omega)]
  · rw [List.getElem?_eq_none (by rw [List.length_set, stB_len]; omega), List.getElem?_eq_none (by rw [stB_len]; omega)]
theorem hexFlat_get : ∀ (l : List UInt8) (i : Nat), i < 2 * l.length → (l.flatMap hexP)[i]? = some (if i % 2 = 0 then mhexD ((l.getD (i / 2) 0).toNat / 16) else mhexD ((l.getD (i / 2) 0).toNat % 16)) := by
  intro l
  induction l with
  | nil => intro i h; simp at h
  | cons c r ih =>
    intro i h
    rw [List.flatMap_cons]
    match i with
    | 0 => rfl
    | 1 => rfl
    | i + 2 =>
      have e : (hexP c ++ r.flatMap hexP)[i + 2]? = (r.flatMap hexP)[i]? := rfl
      rw [e, ih i (by simp at h; omega)]
      have h1 : (i + 2) / 2 = i / 2 + 1 := by omega
      have h2 : (i + 2) % 2 = i % 2 := by omega
      rw [h1, h2, List.getD_cons_succ]
theorem hex_find (d : Nat) (h : d < 16) : Lib.indexByte [48, 49, 50, 51, 52, 53, 54, 55, 56, 57, 97, 98, 99, 100, 101, 102] (mhexD d) = d := by
  have hall : ∀ x : Fin 16, Lib.indexByte [48, 49, 50, 51, 52, 53, 54, 55, 56, 57, 97, 98, 99, 100, 101, 102] (mhexD x.val) = (x.val : Nat) := by decide +kernel
  exact hall ⟨d, h⟩
theorem find_hex (d : Nat) (c : UInt8) (w : World) (h : d < 16) (hc : c = mhexD d) :
    Calls Tryd.prog 77 #[.string ⟨#[48, 49, 50, 51, 52, 53, 54, 55, 56, 57, 97, 98, 99, 100, 101, 102]⟩, .int .u8 (c.toNat : Nat)] w fun e w' => e = .returned (.int .i64 d) ∧ w' = w := by
  subst hc
  have hA : Calls Tryd.prog 77 #[.string ⟨#[48, 49, 50, 51, 52, 53, 54, 55, 56, 57, 97, 98, 99, 100, 101, 102]⟩, .int .u8 ((mhexD d).toNat : Nat)] w fun e w' => e = .returned (.int .i64 (Lib.indexByte [48, 49, 50, 51, 52, 53, 54, 55, 56, 57, 97, 98, 99, 100, 101, 102] (((mhexD d).toNat : Nat) : Int).toNat.toUInt8)) ∧ w' = w :=
    Any.strings_IndexByte sxbLays ⟨#[48, 49, 50, 51, 52, 53, 54, 55, 56, 57, 97, 98, 99, 100, 101, 102]⟩ ((mhexD d).toNat : Nat) w
  have hc : (((mhexD d).toNat : Nat) : Int).toNat.toUInt8 = mhexD d := by simp
  rw [hc, hex_find d h] at hA
  exact hA
theorem mrun_blk {P : Program} {w : World} {g : Nat} {t : TypeId} {L : List UInt8} (src dst e : TypeId) (hs : P.underlying src = some (.slice e)) (he : P.underlying e = some (.int .u8)) (hd : P.underlying dst = some .string) {c n : Nat} (hn : L.length = n) (h : Blk w g t (L.map vB).toArray) :
    (convert src dst (.slice (some ⟨g, 0, none⟩) n c)).run P w = .ok (.string ⟨L.toArray⟩) w := by
  subst hn
  refine run_convert_bytes_back w src dst e ⟨g, 0, none⟩ c L hs he hd fun j hj => ?_
  rw [Addr.add_lit, Nat.zero_add, h.cell j, List.getElem?_toArray, List.getElem?_map, List.getElem?_eq_getElem hj]
  rfl
theorem mmake32 (w : World) : (Instr.makeSlice 54 (.int .i64 32) (.int .i64 32)).run Tryd.prog w = .ok (.slice (some ⟨w.heap.size, 0, none⟩) 32 32) (w.alloc (.cells (List.replicate 32 (Value.int .u8 0)).toArray 5)) :=
  run_mkrow (P := Tryd.prog) 54 5 (.int .u8 0) 1 Tryd.underlying54 byte_info rfl 32 (by omega) (by omega) w
theorem u8_or_low (a b : Nat) (ha : a < 16) (hb : b < 16) : bits .or .u8 ((a * 16 : Nat) : Int) (b : Int) = ((a * 16 + b : Nat) : Int) := by
  have hall : ∀ x y : Fin 16, bits .or .u8 ((x.val * 16 : Nat) : Int) ((y.val : Nat) : Int) = ((x.val * 16 + y.val : Nat) : Int) := by decide +kernel
  exact hall ⟨a, ha⟩ ⟨b, hb⟩
set_option maxRecDepth 100000 in
set_option maxHeartbeats 2000000 in
theorem unhex_good (p s : ByteArray) (w : World) (hp : p.size = 32) (hs : hexM p = s) :
    Calls Tryd.prog 60 #[.string s] w fun e w' => e = .returned (.string p) ∧ Below w.heap.size w w' := by
  have hsz : s.size = 64 := by rw [← hs, hexM_size, hp]
  obtain ⟨l, hl⟩ : ∃ l, p.data.toList = l := ⟨_, rfl⟩
  have hll : l.length = 32 := by rw [← hl]; simpa using hp
  have HG : Hid (∀ i (h : i < s.size), s[i] = if i % 2 = 0 then mhexD ((l.getD (i / 2) 0).toNat / 16) else mhexD ((l.getD (i / 2) 0).toNat % 16)) := Lib.hid (fun i h => by
    have h1 := hexFlat_get l i (by omega)
    have h2 : s.data.toList = l.flatMap hexP := by rw [← hs, ← hl]; simp [hexM]
    rw [← h2, List.getElem?_eq_getElem (by simpa using h)] at h1
    exact Option.some.inj h1)
  have HP : Hid (p = ⟨l.toArray⟩) := Lib.hid (by rw [← hl])
  have HL := Lib.hid hll
  have t1 : ((s.size : Int) == 64) = true := by simp; omega
  have hmk := mmake32 w
  have hR0 : Hid (Row vB (w.alloc (.cells (List.replicate 32 (Value.int .u8 0)).toArray 5)) w.heap.size 5 (stB l 0)) := Lib.hid (by
    rw [stB_zero]
    exact Row.new (f := vB) w 5 32 0)
  obtain ⟨Z, hZ⟩ : ∃ Z : Array Value, (List.replicate 32 (Value.int .u8 0)).toArray = Z := ⟨_, rfl⟩
  rw [hZ] at hmk hR0
  clear hZ hl hll hs hp
  go_enter Tryd.func60, Tryd.ntmps60
  go_wp2_with fail
  refine (must_true _).mono ?_
  rintro e w1 ⟨rfl, rfl⟩
  go_wp2_with fail
  clear hmk
  go_loopw [13] (fun iv wr => ∃ i : Nat, i ≤ 64 ∧ iv = .int .i64 i ∧ Hid (Row vB wr w.heap.size 5 (stB l i)) ∧ Below w.heap.size w wr) (fun iv _ => 64 - (intOf iv).toNat)
  case atStart => exact ⟨0, by omega, rfl, hR0, by go_grown⟩
  case round =>
    clear hR0
    obtain ⟨i, hi, rfl, HR, hB⟩ := hrel
    by_cases hlt : i < s.size
    · have hgi := HG.out i hlt
      have hbi := (s[i]'hlt).toNat_lt
      have k0 : (0 : Int) ≤ (i : Int) := by omega
      have k1 : (i : Int) < (s.size : Int) := by omega
      obtain ⟨j, hj⟩ : ∃ j, i / 2 = j := ⟨_, rfl⟩
      have hji : (i : Int) / 2 = (j : Int) := by omega
      have hj32 : j < 32 := by omega
      have j0 : (0 : Int) ≤ (j : Int) := by omega
      have j1 : (j : Int) < 32 := by omega
      obtain ⟨P, hP⟩ : ∃ P, l.getD j 0 = P := ⟨_, rfl⟩
      have hPb := P.toNat_lt
      have hget := stB_get l i j hj32
      rw [hP] at hget
      have hst := fun v hv => stB_set l i (by omega) v hv
      rw [hj] at hst hgi
      rw [hP] at hgi
      have HSt := Lib.hid hst
      have hlt2 := HR.out.lt
      have f0 := HR.out.free j
      by_cases he : i % 2 = 0
      · rw [if_neg (by omega), if_neg (by omega)] at hget
        rw [if_pos he] at hgi
        obtain ⟨d, hd⟩ : ∃ d, P.toNat / 16 = d := ⟨_, rfl⟩
        have hd16 : d < 16 := by omega
        have HF := Lib.hid (fun W => find_hex d (s[i]'hlt) W hd16 (by rw [hgi, hd]))
        have c0 := HR.out.get hget
        have d0 : decide ((0 : Int) ≤ (d : Int)) = true := by simp
        have hor := u8_or_low 0 d (by omega) hd16
        rw [Nat.zero_mul, Nat.zero_add] at hor
        have hor0 : bits .or .u8 0 (d : Int) = (d : Int) := hor
        have HE : Hid (Row vB (wr.setCell ⟨w.heap.size, j, none⟩ (.int .u8 d)) w.heap.size 5 (stB l (i + 1))) := Lib.hid (by
          have h1 := HR.out.set_ j (UInt8.ofNat d)
          rw [HSt.out (UInt8.ofNat d) (by rw [if_pos he, hP, hd])] at h1
          have h2 : vB (UInt8.ofNat d) = .int .u8 (d : Int) := by unfold vB; rw [show (UInt8.ofNat d).toNat = d by simp; omega]
          rw [h2] at h1
          exact h1)
        unfold vB at c0
        clear hgi hget hst hP hd hj HR
        go_wp2_with fail
        refine (HF.out _).mono ?_
        rintro e w1 ⟨rfl, rfl⟩
        go_wp2_with fail
        refine (must_true _).mono ?_
        rintro e w1 ⟨rfl, rfl⟩
        go_wp2_with fail
        go_roundw
        case rel => exact ⟨i + 1, by omega, by go_num, HE, by go_grown⟩
        case measure => simp [intOf]; omega
      · rw [if_neg (by omega), if_pos (by omega)] at hget
        rw [if_neg he] at hgi
        obtain ⟨d, hd⟩ : ∃ d, P.toNat % 16 = d := ⟨_, rfl⟩
        obtain ⟨h, hh⟩ : ∃ h, P.toNat / 16 = h := ⟨_, rfl⟩
        have hd16 : d < 16 := by omega
        have hh16 : h < 16 := by omega
        have HF := Lib.hid (fun W => find_hex d (s[i]'hlt) W hd16 (by rw [hgi, hd]))
        rw [hh] at hget
        have c0 := HR.out.get hget
        unfold vB at c0
        rw [show (UInt8.ofNat h).toNat = h by simp; omega] at c0
        have d0 : decide ((0 : Int) ≤ (d : Int)) = true := by simp
        have hor := u8_or_low h d hh16 hd16
        have hor2 : bits .or .u8 ((h : Int) * 16) (d : Int) = ((P.toNat : Nat) : Int) := by
          have e1 : (h : Int) * 16 = ((h * 16 : Nat) : Int) := by simp
          rw [e1, hor]
          congr 1
          omega
        have HE : Hid (Row vB (wr.setCell ⟨w.heap.size, j, none⟩ (.int .u8 ((P.toNat : Nat) : Int))) w.heap.size 5 (stB l (i + 1))) := Lib.hid (by
          have h1 := HR.out.set_ j P
          rw [HSt.out P (by rw [if_neg he, hP])] at h1
          exact h1)
        clear hgi hget hst hP hd hj HR hor hh
        go_wp2_with fail
        refine (HF.out _).mono ?_
        rintro e w1 ⟨rfl, rfl⟩
        go_wp2_with fail
        refine (must_true _).mono ?_
        rintro e w1 ⟨rfl, rfl⟩
        go_wp2_with fail
        go_roundw
        case rel => exact ⟨i + 1, by omega, by go_num, HE, by go_grown⟩
        case measure => simp [intOf]; omega
    · obtain rfl : i = 64 := by omega
      have hr := HR.out
      rw [stB_all l HL.out] at hr
      have hcv := mrun_blk (P := Tryd.prog) (L := l) (n := 32) (c := 32) 54 9 5 Tryd.underlying54 Tryd.underlying5 Tryd.underlying9 HL.out hr
      clear hr HR
      go_wp2_with fail
      go_ret
      exact ⟨by rw [HP.out]; rfl, hB⟩
end Go.Proofs.YtbgohcedakpnbaaDoor
