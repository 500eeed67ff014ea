/- seal: Once; what a Tag is told of. -/
import Derived.Test.YtbgohcedakpnbaaGreatDoorStmD
import Derived.Test.YtbgohcedakpnbaaGreatDoorBldB
set_option linter.unusedVariables false
namespace Go.Proofs.YtbgohcedakpnbaaGreatDoor
open Go.RowKit
theorem block_bad (key nonce : ByteArray) (n : Nat) (w : World) (h : key.size ≠ 32 ∨ nonce.size ≠ 12) (hw : n < 4294967296) :
    Calls Tryz.prog 47 #[.string key, .string nonce, .int .i64 n] w fun e w' => e = .returned (.tuple #[.string ⟨#[]⟩, .int .i64 1]) ∧ Below w.heap.size w w' := by
  obtain ⟨hz, hisz⟩ := zero_of_info w16_info
  obtain ⟨Z, hZ⟩ : ∃ Z : Array Value, (List.replicate 16 (Value.int .i64 0)).toArray = Z := ⟨_, rfl⟩
  have hZ2 : zero16 = Z := hZ
  have hZo : Z.all (·.oneCell') = true := by
    rw [← hZ]
    exact all_oneCell_toArray fun v hv => by rw [List.eq_of_mem_replicate hv]; rfl
  rw [hZ] at hz
  have hZs : Z.size = 16 := by rw [← hZ, List.size_toArray, List.length_replicate]
  have HZs := Lib.hid (And.intro hZs hZo)
  have HI := Lib.hid hisz
  have HZ2 := Lib.hid hZ2
  clear hZ hZ2 hZo hZs hisz
  go_enter Tryz.func47, Tryz.ntmps47
  go_wp2_with fail
  refine (first_bad key nonce n w h hw).mono ?_
  rintro e w1 ⟨rfl, hb1⟩
  rw [HZ2.out]
  have hz1 := hb1.size
  go_wp2_with (first
    | (refine wpList_store_rowTo rfl 76 (.tmp 8) (.tmp 26) rfl rfl w1.heap.size Z rfl rfl 76 Z (Blk.new _ _ _) (by rw [HZs.out.1]; exact HI.out) rfl HZs.out.2 ?_; rw [World.setRow_alloc_new]))
  go_ret2
  exact ⟨rfl, hb1.alloc hz1 _⟩
def onceB (key nonce : ByteArray) : ByteArray := (blockB key nonce 0).extract 0 32
theorem onceB_size {key nonce : ByteArray} (hk : key.size = 32) (hn : nonce.size = 12) : (onceB key nonce).size = 32 := by
  have := blockB_size (key := key) (nonce := nonce) 0 hk hn
  simp [onceB, this]
theorem once_good (key nonce : ByteArray) (w : World) (hk : key.size = 32) (hn : nonce.size = 12) (hG : Turns w) :
    Calls Tryz.prog 34 #[.string key, .string nonce] w fun e w' => e = .returned (.tuple #[.string (onceB key nonce), .int .i64 0]) ∧ Below w.heap.size w w' := by
  obtain ⟨b, hb⟩ : ∃ b, blockB key nonce 0 = b := ⟨_, rfl⟩
  have hbs : b.size = 64 := by rw [← hb]; exact blockB_size 0 hk hn
  have HB := Lib.hid (And.intro hb hbs)
  have ho : onceB key nonce = b.extract 0 32 := by rw [onceB, hb]
  rw [ho]
  have h1 : (32 : Int) ≤ (b.size : Int) := by omega
  clear hb hbs ho
  go_enter Tryz.func34, Tryz.ntmps34
  go_wp2_with fail
  refine (block_good key nonce 0 w hk hn (by decide) hG).mono ?_
  rintro e w1 ⟨rfl, hb1⟩
  rw [HB.out.1]
  go_wp2_with fail
  go_ret2
  exact ⟨rfl, hb1⟩
theorem once_bad (key nonce : ByteArray) (w : World) (h : key.size ≠ 32 ∨ nonce.size ≠ 12) :
    Calls Tryz.prog 34 #[.string key, .string nonce] w fun e w' => e = .returned (.tuple #[.string ⟨#[]⟩, .int .i64 1]) ∧ Below w.heap.size w w' := by
  go_enter Tryz.func34, Tryz.ntmps34
  go_wp2_with fail
  refine (block_bad key nonce 0 w h (by decide)).mono ?_
  rintro e w1 ⟨rfl, hb1⟩
  go_wp2_with fail
  go_ret2
  exact ⟨rfl, hb1⟩
/-- up to a multiple of 16 -/
def fillL (l : List UInt8) (k : Nat) : List UInt8 := l ++ List.replicate k 0
def fillN (n : Nat) : Nat := (16 - n % 16) % 16
def padTo (L : List ByteArray) : Nat → List UInt8
  | 0 => []
  | k + 1 => fillL (padTo L k ++ (L.getD k ⟨#[]⟩).data.toList) (fillN (padTo L k ++ (L.getD k ⟨#[]⟩).data.toList).length)
def le8 (n k : Nat) : List UInt8 := (List.range k).map fun i => UInt8.ofNat (n / 2 ^ (8 * i) % 256)
def sizTo (L : List ByteArray) : Nat → List UInt8
  | 0 => padTo L L.length
  | k + 1 => sizTo L k ++ le8 (L.getD k ⟨#[]⟩).size 8
def stoldB (b h : ByteArray) : ByteArray := ⟨(sizTo [b, h] 2).toArray⟩
theorem padTo_len (L : List ByteArray) (m : Nat) (hm : ∀ s ∈ L, s.size ≤ m) (k : Nat) : (padTo L k).length ≤ k * (m + 15) := by
  induction k with
  | zero => simp [padTo]
  | succ k ih =>
    have h1 : (L.getD k ⟨#[]⟩).size ≤ m := by
      rw [List.getD_eq_getElem?_getD]
      cases e : L[k]? with
      | none => exact Nat.zero_le _
      | some s => exact hm s (List.mem_of_getElem? e)
    have h2 : (L.getD k ⟨#[]⟩).data.toList.length = (L.getD k ⟨#[]⟩).size := by simp
    simp only [padTo, fillL, List.length_append, List.length_replicate, h2]
    have : fillN ((padTo L k).length + (L.getD k ⟨#[]⟩).size) ≤ 15 := by unfold fillN; omega
    rw [Nat.succ_mul]
    omega
theorem sizTo_len (L : List ByteArray) (k : Nat) : (sizTo L k).length = (padTo L L.length).length + 8 * k := by
  induction k with
  | zero => rfl
  | succ k ih => simp [sizTo, ih, le8]; omega
end Go.Proofs.YtbgohcedakpnbaaGreatDoor
/- seal: padded, Told. -/
namespace Go.Proofs.YtbgohcedakpnbaaGreatDoor
open Go.RowKit
theorem bld_zero (B b : Nat) (l : List UInt8) (w : World) (h : Bld B b l w) (hlen : l.length + 1 ≤ 140737488355328) (hBw : B ≤ w.heap.size) :
    Calls Tryz.prog 14 #[.pointer (some ⟨b, 0, none⟩), .int .u8 0] w fun e w' => e = .returned .nilIface ∧ Bld B b (l ++ [0]) w' ∧ Below B w w' ∧ BldKept b w w' := bld_byte B b l 0 w h hlen hBw
theorem bld_num (B b : Nat) (l : List UInt8) (x : Nat) (v : Int) (w : World) (h : Bld B b l w) (hlen : l.length + 1 ≤ 140737488355328) (hBw : B ≤ w.heap.size) (hv : v = ((x % 256 : Nat) : Int)) :
    Calls Tryz.prog 14 #[.pointer (some ⟨b, 0, none⟩), .int .u8 v] w fun e w' => e = .returned .nilIface ∧ Bld B b (l ++ [UInt8.ofNat (x % 256)]) w' ∧ Below B w w' ∧ BldKept b w w' := by
  have := bld_byte B b l (UInt8.ofNat (x % 256)) w h hlen hBw
  rw [show (UInt8.ofNat (x % 256)).toNat = x % 256 by simp] at this
  rw [hv]; exact this
theorem fill_snoc (l : List UInt8) (j : Nat) : fillL l j ++ [0] = fillL l (j + 1) := by unfold fillL; rw [List.replicate_succ', List.append_assoc]
theorem le8_snoc (n k : Nat) : le8 n k ++ [UInt8.ofNat (n / 2 ^ (8 * k) % 256)] = le8 n (k + 1) := by unfold le8; rw [List.range_succ]; simp
set_option maxRecDepth 100000 in
set_option maxHeartbeats 4000000 in
theorem padded_any (L : List ByteArray) (m : Nat) (hm : ∀ s ∈ L, s.size ≤ m) (hm2 : m ≤ 100000) (A : Option Addr) (n c : Nat) (w : World) (hS : SlR encS 1 w w.heap.size A n L) (hn : n ≤ 100) :
    Calls Tryz.prog 54 #[.slice A n c] w fun e w' => e = .returned (.string ⟨(sizTo L n).toArray⟩) ∧ Below w.heap.size w w' := by
  obtain ⟨hl, hA⟩ := hS
  have HL := Lib.hid hl
  have HA := Lib.hid hA
  have HP : Hid (∀ k, k ≤ n → (padTo L k).length ≤ 20000000) := Lib.hid (fun k hk => by
    have := padTo_len L m hm k
    have h2 : k * (m + 15) ≤ 100 * 100015 := Nat.mul_le_mul (by omega) (by omega)
    omega)
  have HM := Lib.hid hm
  clear hl hA hm
  go_enter Tryz.func54, Tryz.ntmps54
  go_wp2_with fail
  have hB0 := bld_new w
  have HB0 : Hid (Bld w.heap.size w.heap.size (padTo L 0) (w.alloc (.cells #[.pointer none, .slice none 0 0] 39))) := Lib.hid hB0
  have hb0 : Below w.heap.size w (w.alloc (.cells #[.pointer none, .slice none 0 0] 39)) := by go_grown
  clear hB0
  go_loopw [11] (fun iv wr => ∃ k : Nat, k ≤ n ∧ iv = .int .i64 k ∧ Hid (Bld w.heap.size w.heap.size (padTo L k) wr) ∧ Below w.heap.size w wr) (fun iv _ => n - (intOf iv).toNat)
  case atStart => exact ⟨0, by omega, rfl, HB0, hb0⟩
  case round =>
    obtain ⟨k, hk, rfl, HB, hbr⟩ := hrel
    clear HB0 hb0
    have hsz := hbr.size
    by_cases hlt : k < n
    · obtain ⟨s, hs⟩ : ∃ s, L[k]? = some s := ⟨_, List.getElem?_eq_getElem (by rw [HL.out]; exact hlt)⟩
      have hgd : L.getD k ⟨#[]⟩ = s := by rw [List.getD_eq_getElem?_getD, hs]; rfl
      have hsm := HM.out s (List.mem_of_getElem? hs)
      obtain ⟨b, off, rfl, hb, hC⟩ := HA.out.resolve_left (by omega)
      have c0 := (hC.below hbr hb).str hs
      have hpl := HP.out k (by omega)
      obtain ⟨P, hP⟩ : ∃ P, padTo L k = P := ⟨_, rfl⟩
      rw [hP] at HB hpl
      obtain ⟨X, hX⟩ : ∃ X, P ++ s.data.toList = X := ⟨_, rfl⟩
      have hXl : X.length = P.length + s.size := by rw [← hX]; simp
      have HX := Lib.hid (And.intro hX (And.intro hP hgd))
      clear hC hs hgd hX hP
      obtain ⟨wo, hwo⟩ : ∃ W : World, W = wr := ⟨wr, rfl⟩
      clear hwo
      go_wp2_with fail
      refine (bld_write w.heap.size w.heap.size P s wr HB.out (by omega) hsz).mono ?_
      rintro e w1 ⟨rfl, h1, hb1, hk1⟩
      rw [HX.out.1] at h1
      have HB1 : Hid (Bld w.heap.size w.heap.size (fillL X 0) w1) := Lib.hid (by rw [show fillL X 0 = X by simp [fillL]]; exact h1)
      have hbw1 := hbr.trans hb1
      clear h1 hb1 hk1 c0 HB
      go_wp2_with fail
      obtain ⟨fn, hfn⟩ : ∃ f, fillN X.length = f := ⟨_, rfl⟩
      have hf1 : fn ≤ 15 := by rw [← hfn]; unfold fillN; omega
      have hf2 : (X.length + fn) % 16 = 0 := by rw [← hfn]; unfold fillN; omega
      have hf3 : ∀ j, j < fn → (X.length + j) % 16 ≠ 0 := by intro j hj; rw [← hfn] at hj; unfold fillN at hj; omega
      have HF := Lib.hid (And.intro hfn (And.intro hf2 hf3))
      clear hfn hf2 hf3
      go_loopg [17] fn (fun g v wr => ∃ j : Nat, j + g = fn ∧ Hid (Bld w.heap.size w.heap.size (fillL X j) wr) ∧ Below w.heap.size w wr)
      case atStart => exact ⟨0, by omega, HB1, hbw1⟩
      case round =>
        obtain ⟨j, hjg, HBj, hbj⟩ := hrel
        clear HB1 hbw1
        obtain ⟨q, hq⟩ : ∃ q, X.length + j = q := ⟨_, rfl⟩
        have hql : (fillL X j).length = q := by rw [← hq]; simp [fillL]
        have hq9 : q ≤ 30000000 := by omega
        have hszj := hbj.size
        go_wp2_with fail
        refine (bld_len w.heap.size w.heap.size (fillL X j) wr HBj.out).mono ?_
        rintro e w2 ⟨rfl, rfl⟩
        rw [hql]
        by_cases hg : gk = 0
        · have t1 : ((q : Int) % 16 != 0) = false := by
            have h1 := HF.out.2.1
            have h2 : (q : Int) % 16 = 0 := by omega
            simp [h2]
          have HE : Hid (Bld w.heap.size w.heap.size (padTo L (k + 1)) wr) := Lib.hid (by
            rw [padTo, HX.out.2.2, HX.out.2.1, HX.out.1, HF.out.1, ← show j = fn by omega]
            exact HBj.out)
          clear HBj hql
          go_wp2_with fail
          go_roundw
          case rel => exact ⟨k + 1, by omega, by go_num, HE, hbj⟩
          case measure => simp [intOf]; omega
        · have t1 : ((q : Int) % 16 != 0) = true := by
            have h1 := HF.out.2.2 j (by omega)
            have h2 : ¬ ((q : Int) % 16 = 0) := by omega
            simp [h2]
          go_wp2_with fail
          refine (bld_zero w.heap.size w.heap.size (fillL X j) wr HBj.out (by rw [hql]; omega) hszj).mono ?_
          rintro e w3 ⟨rfl, h3, hb3, hk3⟩
          rw [fill_snoc] at h3
          have HE : Hid (Bld w.heap.size w.heap.size (fillL X (j + 1)) w3) := h3
          have hbe := hbj.trans hb3
          clear h3 hb3 hk3 HBj
          go_wp2_with fail
          go_roundg (gk - 1)
          case measure => omega
          case rel => exact ⟨j + 1, by omega, HE, hbe⟩
    · obtain rfl : k = n := by omega
      have HB1 : Hid (Bld w.heap.size w.heap.size (sizTo L 0) wr) := Lib.hid (by rw [sizTo, HL.out]; exact HB.out)
      clear HB
      obtain ⟨wo, hwo⟩ : ∃ W : World, W = wr := ⟨wr, rfl⟩
      clear hwo
      go_wp2_with fail
      go_loopw [24] (fun iv wr => ∃ i : Nat, i ≤ k ∧ iv = .int .i64 i ∧ Hid (Bld w.heap.size w.heap.size (sizTo L i) wr) ∧ Below w.heap.size w wr) (fun iv _ => k - (intOf iv).toNat)
      case atStart => exact ⟨0, by omega, rfl, HB1, hbr⟩
      case round =>
        obtain ⟨i, hi, rfl, HB, hbi⟩ := hrel
        clear HB1 hbr
        have hszi := hbi.size
        by_cases hli : i < k
        · obtain ⟨s, hs⟩ : ∃ s, L[i]? = some s := ⟨_, List.getElem?_eq_getElem (by rw [HL.out]; exact hli)⟩
          have hgd : L.getD i ⟨#[]⟩ = s := by rw [List.getD_eq_getElem?_getD, hs]; rfl
          have hsm := HM.out s (List.mem_of_getElem? hs)
          obtain ⟨b, off, rfl, hb, hC⟩ := HA.out.resolve_left (by omega)
          have c0 := (hC.below hbi hb).str hs
          have hpl := HP.out k (Nat.le_refl _)
          have hsl := sizTo_len L i
          rw [HL.out] at hsl
          obtain ⟨P, hP⟩ : ∃ P, sizTo L i = P := ⟨_, rfl⟩
          rw [hP] at HB hsl
          have hPl : P.length ≤ 30000000 := by omega
          have HX := Lib.hid (And.intro hP hgd)
          have HB0 : Hid (Bld w.heap.size w.heap.size (P ++ le8 s.size 0) wr) := Lib.hid (by rw [show le8 s.size 0 = [] from rfl, List.append_nil]; exact HB.out)
          clear hC hs hgd hP HB hsl hpl
          obtain ⟨wo, hwo⟩ : ∃ W : World, W = wr := ⟨wr, rfl⟩
          clear hwo
          go_wp2_with fail
          go_loopw [28] (fun jv wr => ∃ j : Nat, j ≤ 8 ∧ jv = .int .i64 j ∧ Hid (Bld w.heap.size w.heap.size (P ++ le8 s.size j) wr) ∧ Below w.heap.size w wr) (fun jv _ => 8 - (intOf jv).toNat)
          case atStart => exact ⟨0, by omega, rfl, HB0, hbi⟩
          case round =>
            obtain ⟨j, hj, rfl, HBj, hbj⟩ := hrel
            clear HB0 hbi
            have hszj := hbj.size
            by_cases hlj : j < 8
            · obtain ⟨sh, hsh⟩ : ∃ sh, 8 * j = sh := ⟨_, rfl⟩
              have e1 : (8 : Int) * (j : Int) = (sh : Int) := by omega
              have hs64 : sh ≤ 56 := by omega
              have hln : (P ++ le8 s.size j).length + 1 ≤ 140737488355328 := by simp [le8]; omega
              have HLN := Lib.hid hln
              have HSH := Lib.hid hsh
              clear hln hsh
              go_wp2_with fail
              refine (bld_num w.heap.size w.heap.size (P ++ le8 s.size j) (s.size / 2 ^ sh) _ wr HBj.out HLN.out hszj (by simp)).mono ?_
              rintro e w3 ⟨rfl, h3, hb3, hk3⟩
              have HE : Hid (Bld w.heap.size w.heap.size (P ++ le8 s.size (j + 1)) w3) := Lib.hid (by
                have h4 := le8_snoc s.size j
                rw [HSH.out] at h4
                rw [← h4, ← List.append_assoc]; exact h3)
              have hbe := hbj.trans hb3
              clear h3 hb3 hk3 HBj hbj
              go_wp2_with fail
              go_roundw
              case rel => exact ⟨j + 1, by omega, by go_num, HE, hbe⟩
              case measure => simp [intOf]; omega
            · obtain rfl : j = 8 := by omega
              have HE : Hid (Bld w.heap.size w.heap.size (sizTo L (i + 1)) wr) := Lib.hid (by rw [sizTo, HX.out.1, HX.out.2]; exact HBj.out)
              clear HBj
              go_wp2_with fail
              go_roundw
              case rel => exact ⟨i + 1, by omega, by go_num, HE, hbj⟩
              case measure => simp [intOf]; omega
        · obtain rfl : i = k := by omega
          go_wp2_with fail
          refine (bld_string w.heap.size w.heap.size (sizTo L i) wr HB.out hszi).mono ?_
          rintro e w3 ⟨rfl, h3, hb3, hk3⟩
          have hbe := hbi.trans hb3
          go_wp2_with fail
          go_ret
          exact ⟨rfl, hbe⟩
theorem stold_any (b h : ByteArray) (w : World) (hb : b.size ≤ 100000) (hh : h.size ≤ 100000) :
    Calls Tryz.prog 37 #[.string b, .string h] w fun e w' => e = .returned (.string (stoldB b h)) ∧ Below w.heap.size w w' := by
  have hS : SlR encS 1 (w.alloc (.cells #[.string b, .string h] 9)) (w.alloc (.cells #[.string b, .string h] 9)).heap.size (some ⟨w.heap.size, 0, none⟩) 2 [b, h] := by
    refine SlR.ofC rfl (by simp) ?_
    intro k s hk j u hj
    have hB := Blk.new w 9 #[.string b, .string h]
    match k, hk with
    | 0, hk => simp at hk; subst hk; match j, hj with | 0, hj => simp [encS] at hj; subst hj; exact hB.cells 0 _ rfl
    | 1, hk => simp at hk; subst hk; match j, hj with | 0, hj => simp [encS] at hj; subst hj; exact hB.cells 1 _ rfl
  go_enter Tryz.func37, Tryz.ntmps37
  go_wp2_with fail
  refine (padded_any [b, h] 100000 (by intro s hs; simp at hs; rcases hs with rfl | rfl <;> assumption) (Nat.le_refl _) _ 2 2 _ hS (by omega)).mono ?_
  rintro e w1 ⟨rfl, hb1⟩
  have hbe : Below w.heap.size w w1 := Below.trans (by go_grown) (hb1.mono (by simp))
  go_wp2_with fail
  go_ret
  exact ⟨rfl, hbe⟩
theorem stold_len (b h : ByteArray) (m : Nat) (hb : b.size ≤ m) (hh : h.size ≤ m) : (stoldB b h).size ≤ 2 * m + 46 := by
  have h1 : (stoldB b h).size = (sizTo [b, h] 2).length := by show (sizTo [b, h] 2).toArray.size = _; simp
  rw [h1, sizTo_len]
  have := padTo_len [b, h] m (by intro s hs; simp at hs; rcases hs with rfl | rfl <;> assumption) 2
  rw [show [b, h].length = 2 from rfl]
  omega
end Go.Proofs.YtbgohcedakpnbaaGreatDoor
