/- seal: Seal, Open. -/
import Derived.Test.YtpkomloblhbkiaaGreatDoorStmD
import Derived.Test.YtpkomloblhbkiaaGreatDoorDigA
import Derived.Test.YtpkomloblhbkiaaGreatDoorNonB
set_option linter.unusedVariables false
/- seal: Once; what a Tag is told of. -/
namespace Go.Proofs.YtpkomloblhbkiaaGreatDoor
open Go.RowKit
theorem block_bad (key nonce : ByteArray) (n : Nat) (w : World) (h : key.size ≠ 32 ∨ nonce.size ≠ 12) (hw : n < 4294967296) :
    Calls Tryz.prog 124 #[.string key, .string nonce, .int .i64 n] w fun e w' => e = .returned (.tuple #[.string ⟨#[]⟩, .int .i64 1]) ∧ Below w.heap.size w w' := by
  obtain ⟨hz, hisz⟩ := zero_of_info w16_info
  obtain ⟨Z, hZ⟩ : ∃ Z : Array Value, (List.replicate 16 (Value.int .i64 0)).toArray = Z := ⟨_, rfl⟩
  have hZ2 : zero16 = Z := hZ
  have hZo : Z.all (·.oneCell') = true := by
    rw [← hZ]
    exact all_oneCell_toArray fun v hv => by rw [List.eq_of_mem_replicate hv]; rfl
  rw [hZ] at hz
  have hZs : Z.size = 16 := by rw [← hZ, List.size_toArray, List.length_replicate]
  have HZs := Lib.hid (And.intro hZs hZo)
  have HI := Lib.hid hisz
  have HZ2 := Lib.hid hZ2
  clear hZ hZ2 hZo hZs hisz
  go_enter Tryz.func124, Tryz.ntmps124
  go_wp2_with fail
  refine (first_bad key nonce n w h hw).mono ?_
  rintro e w1 ⟨rfl, hb1⟩
  rw [HZ2.out]
  have hz1 := hb1.size
  go_wp2_with (first
    | (refine wpList_store_rowTo rfl 178 (.tmp 8) (.tmp 26) rfl rfl w1.heap.size Z rfl rfl 178 Z (Blk.new _ _ _) (by rw [HZs.out.1]; exact HI.out) rfl HZs.out.2 ?_; rw [World.setRow_alloc_new]))
  go_ret2
  exact ⟨rfl, hb1.alloc hz1 _⟩
def onceB (key nonce : ByteArray) : ByteArray := (blockB key nonce 0).extract 0 32
theorem onceB_size {key nonce : ByteArray} (hk : key.size = 32) (hn : nonce.size = 12) : (onceB key nonce).size = 32 := by
  have := blockB_size (key := key) (nonce := nonce) 0 hk hn
  simp [onceB, this]
theorem once_good (key nonce : ByteArray) (w : World) (hk : key.size = 32) (hn : nonce.size = 12) (hG : Turns w) :
    Calls Tryz.prog 114 #[.string key, .string nonce] w fun e w' => e = .returned (.tuple #[.string (onceB key nonce), .int .i64 0]) ∧ Below w.heap.size w w' := by
  obtain ⟨b, hb⟩ : ∃ b, blockB key nonce 0 = b := ⟨_, rfl⟩
  have hbs : b.size = 64 := by rw [← hb]; exact blockB_size 0 hk hn
  have HB := Lib.hid (And.intro hb hbs)
  have ho : onceB key nonce = b.extract 0 32 := by rw [onceB, hb]
  rw [ho]
  have h1 : (32 : Int) ≤ (b.size : Int) := by omega
  clear hb hbs ho
  go_enter Tryz.func114, Tryz.ntmps114
  go_wp2_with fail
  refine (block_good key nonce 0 w hk hn (by decide) hG).mono ?_
  rintro e w1 ⟨rfl, hb1⟩
  rw [HB.out.1]
  go_wp2_with fail
  go_ret2
  exact ⟨rfl, hb1⟩
theorem once_bad (key nonce : ByteArray) (w : World) (h : key.size ≠ 32 ∨ nonce.size ≠ 12) :
    Calls Tryz.prog 114 #[.string key, .string nonce] w fun e w' => e = .returned (.tuple #[.string ⟨#[]⟩, .int .i64 1]) ∧ Below w.heap.size w w' := by
  go_enter Tryz.func114, Tryz.ntmps114
  go_wp2_with fail
  refine (block_bad key nonce 0 w h (by decide)).mono ?_
  rintro e w1 ⟨rfl, hb1⟩
  go_wp2_with fail
  go_ret2
  exact ⟨rfl, hb1⟩
/-- up to a multiple of 16 -/
def fillL (l : List UInt8) (k : Nat) : List UInt8 := l ++ List.replicate k 0
def fillN (n : Nat) : Nat := (16 - n % 16) % 16
def padTo (L : List ByteArray) : Nat → List UInt8
  | 0 => []
  | k + 1 => fillL (padTo L k ++ (L.getD k ⟨#[]⟩).data.toList) (fillN (padTo L k ++ (L.getD k ⟨#[]⟩).data.toList).length)
def le8 (n k : Nat) : List UInt8 := (List.range k).map fun i => UInt8.ofNat (n / 2 ^ (8 * i) % 256)
def sizTo (L : List ByteArray) : Nat → List UInt8
  | 0 => padTo L L.length
  | k + 1 => sizTo L k ++ le8 (L.getD k ⟨#[]⟩).size 8
def stoldB (b h : ByteArray) : ByteArray := ⟨(sizTo [b, h] 2).toArray⟩
theorem padTo_len (L : List ByteArray) (m : Nat) (hm : ∀ s ∈ L, s.size ≤ m) (k : Nat) : (padTo L k).length ≤ k * (m + 15) := by
  induction k with
  | zero => simp [padTo]
  | succ k ih =>
    have h1 : (L.getD k ⟨#[]⟩).size ≤ m := by
      rw [List.getD_eq_getElem?_getD]
      cases e : L[k]? with
      | none => exact Nat.zero_le _
      | some s => exact hm s (List.mem_of_getElem? e)
    have h2 : (L.getD k ⟨#[]⟩).data.toList.length = (L.getD k ⟨#[]⟩).size := by simp
    simp only [padTo, fillL, List.length_append, List.length_replicate, h2]
    have : fillN ((padTo L k).length + (L.getD k ⟨#[]⟩).size) ≤ 15 := by unfold fillN; omega
    rw [Nat.succ_mul]
    omega
theorem sizTo_len (L : List ByteArray) (k : Nat) : (sizTo L k).length = (padTo L L.length).length + 8 * k := by
  induction k with
  | zero => rfl
  | succ k ih => simp [sizTo, ih, le8]; omega
end Go.Proofs.YtpkomloblhbkiaaGreatDoor
/- seal: padded, Told. -/
namespace Go.Proofs.YtpkomloblhbkiaaGreatDoor
open Go.RowKit
theorem bld_zero (B b : Nat) (l : List UInt8) (w : World) (h : Bld B b l w) (hlen : l.length + 1 ≤ 140737488355328) (hBw : B ≤ w.heap.size) :
    Calls Tryz.prog 143 #[.pointer (some ⟨b, 0, none⟩), .int .u8 0] w fun e w' => e = .returned .nilIface ∧ Bld B b (l ++ [0]) w' ∧ Below B w w' ∧ BldKept b w w' := bld_byte B b l 0 w h hlen hBw
theorem bld_num (B b : Nat) (l : List UInt8) (x : Nat) (v : Int) (w : World) (h : Bld B b l w) (hlen : l.length + 1 ≤ 140737488355328) (hBw : B ≤ w.heap.size) (hv : v = ((x % 256 : Nat) : Int)) :
    Calls Tryz.prog 143 #[.pointer (some ⟨b, 0, none⟩), .int .u8 v] w fun e w' => e = .returned .nilIface ∧ Bld B b (l ++ [UInt8.ofNat (x % 256)]) w' ∧ Below B w w' ∧ BldKept b w w' := by
  have := bld_byte B b l (UInt8.ofNat (x % 256)) w h hlen hBw
  rw [show (UInt8.ofNat (x % 256)).toNat = x % 256 by simp] at this
  rw [hv]; exact this
theorem fill_snoc (l : List UInt8) (j : Nat) : fillL l j ++ [0] = fillL l (j + 1) := by unfold fillL; rw [List.replicate_succ', List.append_assoc]
theorem le8_snoc (n k : Nat) : le8 n k ++ [UInt8.ofNat (n / 2 ^ (8 * k) % 256)] = le8 n (k + 1) := by unfold le8; rw [List.range_succ]; simp
set_option maxRecDepth 100000 in
set_option maxHeartbeats 4000000 in
theorem padded_any (L : List ByteArray) (m : Nat) (hm : ∀ s ∈ L, s.size ≤ m) (hm2 : m ≤ 100000) (A : Option Addr) (n c : Nat) (w : World) (hS : SlR encS 1 w w.heap.size A n L) (hn : n ≤ 100) :
    Calls Tryz.prog 130 #[.slice A n c] w fun e w' => e = .returned (.string ⟨(sizTo L n).toArray⟩) ∧ Below w.heap.size w w' := by
  obtain ⟨hl, hA⟩ := hS
  have HL := Lib.hid hl
  have HA := Lib.hid hA
  have HP : Hid (∀ k, k ≤ n → (padTo L k).length ≤ 20000000) := Lib.hid (fun k hk => by
    have := padTo_len L m hm k
    have h2 : k * (m + 15) ≤ 100 * 100015 := Nat.mul_le_mul (by omega) (by omega)
    omega)
  have HM := Lib.hid hm
  clear hl hA hm
  go_enter Tryz.func130, Tryz.ntmps130
  go_wp2_with fail
  have hB0 := bld_new w
  have HB0 : Hid (Bld w.heap.size w.heap.size (padTo L 0) (w.alloc (.cells #[.pointer none, .slice none 0 0] 201))) := Lib.hid hB0
  have hb0 : Below w.heap.size w (w.alloc (.cells #[.pointer none, .slice none 0 0] 201)) := by go_grown
  clear hB0
  go_loopw [11] (fun iv wr => ∃ k : Nat, k ≤ n ∧ iv = .int .i64 k ∧ Hid (Bld w.heap.size w.heap.size (padTo L k) wr) ∧ Below w.heap.size w wr) (fun iv _ => n - (intOf iv).toNat)
  case atStart => exact ⟨0, by omega, rfl, HB0, hb0⟩
  case round =>
    obtain ⟨k, hk, rfl, HB, hbr⟩ := hrel
    clear HB0 hb0
    have hsz := hbr.size
    by_cases hlt : k < n
    · obtain ⟨s, hs⟩ : ∃ s, L[k]? = some s := ⟨_, List.getElem?_eq_getElem (by rw [HL.out]; exact hlt)⟩
      have hgd : L.getD k ⟨#[]⟩ = s := by rw [List.getD_eq_getElem?_getD, hs]; rfl
      have hsm := HM.out s (List.mem_of_getElem? hs)
      obtain ⟨b, off, rfl, hb, hC⟩ := HA.out.resolve_left (by omega)
      have c0 := (hC.below hbr hb).str hs
      have hpl := HP.out k (by omega)
      obtain ⟨P, hP⟩ : ∃ P, padTo L k = P := ⟨_, rfl⟩
      rw [hP] at HB hpl
      obtain ⟨X, hX⟩ : ∃ X, P ++ s.data.toList = X := ⟨_, rfl⟩
      have hXl : X.length = P.length + s.size := by rw [← hX]; simp
      have HX := Lib.hid (And.intro hX (And.intro hP hgd))
      clear hC hs hgd hX hP
      obtain ⟨wo, hwo⟩ : ∃ W : World, W = wr := ⟨wr, rfl⟩
      clear hwo
      go_wp2_with fail
      refine (bld_write w.heap.size w.heap.size P s wr HB.out (by omega) hsz).mono ?_
      rintro e w1 ⟨rfl, h1, hb1, hk1⟩
      rw [HX.out.1] at h1
      have HB1 : Hid (Bld w.heap.size w.heap.size (fillL X 0) w1) := Lib.hid (by rw [show fillL X 0 = X by simp [fillL]]; exact h1)
      have hbw1 := hbr.trans hb1
      clear h1 hb1 hk1 c0 HB
      go_wp2_with fail
      obtain ⟨fn, hfn⟩ : ∃ f, fillN X.length = f := ⟨_, rfl⟩
      have hf1 : fn ≤ 15 := by rw [← hfn]; unfold fillN; omega
      have hf2 : (X.length + fn) % 16 = 0 := by rw [← hfn]; unfold fillN; omega
      have hf3 : ∀ j, j < fn → (X.length + j) % 16 ≠ 0 := by intro j hj; rw [← hfn] at hj; unfold fillN at hj; omega
      have HF := Lib.hid (And.intro hfn (And.intro hf2 hf3))
      clear hfn hf2 hf3
      go_loopg [17] fn (fun g v wr => ∃ j : Nat, j + g = fn ∧ Hid (Bld w.heap.size w.heap.size (fillL X j) wr) ∧ Below w.heap.size w wr)
      case atStart => exact ⟨0, by omega, HB1, hbw1⟩
      case round =>
        obtain ⟨j, hjg, HBj, hbj⟩ := hrel
        clear HB1 hbw1
        obtain ⟨q, hq⟩ : ∃ q, X.length + j = q := ⟨_, rfl⟩
        have hql : (fillL X j).length = q := by rw [← hq]; simp [fillL]
        have hq9 : q ≤ 30000000 := by omega
        have hszj := hbj.size
        go_wp2_with fail
        refine (bld_len w.heap.size w.heap.size (fillL X j) wr HBj.out).mono ?_
        rintro e w2 ⟨rfl, rfl⟩
        rw [hql]
        by_cases hg : gk = 0
        · have t1 : ((q : Int) % 16 != 0) = false := by
            have h1 := HF.out.2.1
            have h2 : (q : Int) % 16 = 0 := by omega
            simp [h2]
          have HE : Hid (Bld w.heap.size w.heap.size (padTo L (k + 1)) wr) := Lib.hid (by
            rw [padTo, HX.out.2.2, HX.out.2.1, HX.out.1, HF.out.1, ← show j = fn by omega]
            exact HBj.out)
          clear HBj hql
          go_wp2_with fail
          go_roundw
          case rel => exact ⟨k + 1, by omega, by go_num, HE, hbj⟩
          case measure => simp [intOf]; omega
        · have t1 : ((q : Int) % 16 != 0) = true := by
            have h1 := HF.out.2.2 j (by omega)
            have h2 : ¬ ((q : Int) % 16 = 0) := by omega
            simp [h2]
          go_wp2_with fail
          refine (bld_zero w.heap.size w.heap.size (fillL X j) wr HBj.out (by rw [hql]; omega) hszj).mono ?_
          rintro e w3 ⟨rfl, h3, hb3, hk3⟩
          rw [fill_snoc] at h3
          have HE : Hid (Bld w.heap.size w.heap.size (fillL X (j + 1)) w3) := h3
          have hbe := hbj.trans hb3
          clear h3 hb3 hk3 HBj
          go_wp2_with fail
          go_roundg (gk - 1)
          case measure => omega
          case rel => exact ⟨j + 1, by omega, HE, hbe⟩
    · obtain rfl : k = n := by omega
      have HB1 : Hid (Bld w.heap.size w.heap.size (sizTo L 0) wr) := Lib.hid (by rw [sizTo, HL.out]; exact HB.out)
      clear HB
      obtain ⟨wo, hwo⟩ : ∃ W : World, W = wr := ⟨wr, rfl⟩
      clear hwo
      go_wp2_with fail
      go_loopw [24] (fun iv wr => ∃ i : Nat, i ≤ k ∧ iv = .int .i64 i ∧ Hid (Bld w.heap.size w.heap.size (sizTo L i) wr) ∧ Below w.heap.size w wr) (fun iv _ => k - (intOf iv).toNat)
      case atStart => exact ⟨0, by omega, rfl, HB1, hbr⟩
      case round =>
        obtain ⟨i, hi, rfl, HB, hbi⟩ := hrel
        clear HB1 hbr
        have hszi := hbi.size
        by_cases hli : i < k
        · obtain ⟨s, hs⟩ : ∃ s, L[i]? = some s := ⟨_, List.getElem?_eq_getElem (by rw [HL.out]; exact hli)⟩
          have hgd : L.getD i ⟨#[]⟩ = s := by rw [List.getD_eq_getElem?_getD, hs]; rfl
          have hsm := HM.out s (List.mem_of_getElem? hs)
          obtain ⟨b, off, rfl, hb, hC⟩ := HA.out.resolve_left (by omega)
          have c0 := (hC.below hbi hb).str hs
          have hpl := HP.out k (Nat.le_refl _)
          have hsl := sizTo_len L i
          rw [HL.out] at hsl
          obtain ⟨P, hP⟩ : ∃ P, sizTo L i = P := ⟨_, rfl⟩
          rw [hP] at HB hsl
          have hPl : P.length ≤ 30000000 := by omega
          have HX := Lib.hid (And.intro hP hgd)
          have HB0 : Hid (Bld w.heap.size w.heap.size (P ++ le8 s.size 0) wr) := Lib.hid (by rw [show le8 s.size 0 = [] from rfl, List.append_nil]; exact HB.out)
          clear hC hs hgd hP HB hsl hpl
          obtain ⟨wo, hwo⟩ : ∃ W : World, W = wr := ⟨wr, rfl⟩
          clear hwo
          go_wp2_with fail
          go_loopw [28] (fun jv wr => ∃ j : Nat, j ≤ 8 ∧ jv = .int .i64 j ∧ Hid (Bld w.heap.size w.heap.size (P ++ le8 s.size j) wr) ∧ Below w.heap.size w wr) (fun jv _ => 8 - (intOf jv).toNat)
          case atStart => exact ⟨0, by omega, rfl, HB0, hbi⟩
          case round =>
            obtain ⟨j, hj, rfl, HBj, hbj⟩ := hrel
            clear HB0 hbi
            have hszj := hbj.size
            by_cases hlj : j < 8
            · obtain ⟨sh, hsh⟩ : ∃ sh, 8 * j = sh := ⟨_, rfl⟩
              have e1 : (8 : Int) * (j : Int) = (sh : Int) := by omega
              have hs64 : sh ≤ 56 := by omega
              have hln : (P ++ le8 s.size j).length + 1 ≤ 140737488355328 := by simp [le8]; omega
              have HLN := Lib.hid hln
              have HSH := Lib.hid hsh
              clear hln hsh
              go_wp2_with fail
              refine (bld_num w.heap.size w.heap.size (P ++ le8 s.size j) (s.size / 2 ^ sh) _ wr HBj.out HLN.out hszj (by simp)).mono ?_
              rintro e w3 ⟨rfl, h3, hb3, hk3⟩
              have HE : Hid (Bld w.heap.size w.heap.size (P ++ le8 s.size (j + 1)) w3) := Lib.hid (by
                have h4 := le8_snoc s.size j
                rw [HSH.out] at h4
                rw [← h4, ← List.append_assoc]; exact h3)
              have hbe := hbj.trans hb3
              clear h3 hb3 hk3 HBj hbj
              go_wp2_with fail
              go_roundw
              case rel => exact ⟨j + 1, by omega, by go_num, HE, hbe⟩
              case measure => simp [intOf]; omega
            · obtain rfl : j = 8 := by omega
              have HE : Hid (Bld w.heap.size w.heap.size (sizTo L (i + 1)) wr) := Lib.hid (by rw [sizTo, HX.out.1, HX.out.2]; exact HBj.out)
              clear HBj
              go_wp2_with fail
              go_roundw
              case rel => exact ⟨i + 1, by omega, by go_num, HE, hbj⟩
              case measure => simp [intOf]; omega
        · obtain rfl : i = k := by omega
          go_wp2_with fail
          refine (bld_string w.heap.size w.heap.size (sizTo L i) wr HB.out hszi).mono ?_
          rintro e w3 ⟨rfl, h3, hb3, hk3⟩
          have hbe := hbi.trans hb3
          go_wp2_with fail
          go_ret
          exact ⟨rfl, hbe⟩
theorem stold_any (b h : ByteArray) (w : World) (hb : b.size ≤ 100000) (hh : h.size ≤ 100000) :
    Calls Tryz.prog 117 #[.string b, .string h] w fun e w' => e = .returned (.string (stoldB b h)) ∧ Below w.heap.size w w' := by
  have hS : SlR encS 1 (w.alloc (.cells #[.string b, .string h] 9)) (w.alloc (.cells #[.string b, .string h] 9)).heap.size (some ⟨w.heap.size, 0, none⟩) 2 [b, h] := by
    refine SlR.ofC rfl (by simp) ?_
    intro k s hk j u hj
    have hB := Blk.new w 9 #[.string b, .string h]
    match k, hk with
    | 0, hk => simp at hk; subst hk; match j, hj with | 0, hj => simp [encS] at hj; subst hj; exact hB.cells 0 _ rfl
    | 1, hk => simp at hk; subst hk; match j, hj with | 0, hj => simp [encS] at hj; subst hj; exact hB.cells 1 _ rfl
  go_enter Tryz.func117, Tryz.ntmps117
  go_wp2_with fail
  refine (padded_any [b, h] 100000 (by intro s hs; simp at hs; rcases hs with rfl | rfl <;> assumption) (Nat.le_refl _) _ 2 2 _ hS (by omega)).mono ?_
  rintro e w1 ⟨rfl, hb1⟩
  have hbe : Below w.heap.size w w1 := Below.trans (by go_grown) (hb1.mono (by simp))
  go_wp2_with fail
  go_ret
  exact ⟨rfl, hbe⟩
theorem stold_len (b h : ByteArray) (m : Nat) (hb : b.size ≤ m) (hh : h.size ≤ m) : (stoldB b h).size ≤ 2 * m + 46 := by
  have h1 : (stoldB b h).size = (sizTo [b, h] 2).length := by show (sizTo [b, h] 2).toArray.size = _; simp
  rw [h1, sizTo_len]
  have := padTo_len [b, h] m (by intro s hs; simp at hs; rcases hs with rfl | rfl <;> assumption) 2
  rw [show [b, h].length = 2 from rfl]
  omega
end Go.Proofs.YtpkomloblhbkiaaGreatDoor
namespace Go.Proofs.YtpkomloblhbkiaaGreatDoor
open Go.RowKit
theorem tagB_size (key s : ByteArray) : (tagB key s).size = 16 := by
  show (tagL _ _ 16).toArray.size = 16
  rw [List.size_toArray, tagL_len]
/-- a text, and whether it is there -/
def sealF (key nonce beside s : ByteArray) : ByteArray × Int :=
  if key.size ≠ 32 ∨ nonce.size ≠ 12 then (⟨#[]⟩, 1)
  else if 4000 < beside.size ∨ 4000 < s.size then (⟨#[]⟩, 2)
  else (hideB key nonce 1 s ++ tagB (onceB key nonce) (stoldB beside (hideB key nonce 1 s)), 0)
def headB (s : ByteArray) : ByteArray := s.extract 0 (s.size - 16)
def tailB (s : ByteArray) : ByteArray := s.extract (s.size - 16) s.size
def fitsB (key nonce beside s : ByteArray) : Bool := (tagB (onceB key nonce) (stoldB beside (headB s))).toList == (tailB s).toList
def openF (key nonce beside s : ByteArray) : ByteArray × Int :=
  if key.size ≠ 32 ∨ nonce.size ≠ 12 then (⟨#[]⟩, 1)
  else if 4000 < beside.size ∨ 4016 < s.size then (⟨#[]⟩, 2)
  else if s.size < 16 ∨ fitsB key nonce beside s = false then (⟨#[]⟩, 60)
  else (hideB key nonce 1 (headB s), 0)
theorem same_dig (a b : ByteArray) (w : World) : Calls Tryz.prog 132 #[.string a, .string b] w fun e w' => e = .returned (.bool (a.toList == b.toList)) ∧ w = w' := by
  go_enter Tryz.func132, Tryz.ntmps132
  go_wp2
  go_ret
  exact ⟨rfl, rfl⟩
set_option maxRecDepth 100000 in
theorem seal_any (key nonce beside s : ByteArray) (w : World) (hG : Turns w) (hb : beside.size ≤ 140737488351232) (hs : s.size ≤ 140737488351232) :
    Calls Tryz.prog 89 #[.string key, .string nonce, .string beside, .string s] w fun e w' => e = .returned (.tuple #[.string (sealF key nonce beside s).1, .int .i64 (sealF key nonce beside s).2]) ∧ Below w.heap.size w w' := by
  by_cases h : key.size ≠ 32 ∨ nonce.size ≠ 12
  · rw [sealF, if_pos h]
    have HH := Lib.hid h
    clear h
    go_enter Tryz.func89, Tryz.ntmps89
    go_wp2_with fail
    refine (once_bad key nonce w HH.out).mono ?_
    rintro e w1 ⟨rfl, hb1⟩
    go_wp2_with fail
    all_goals go_ret2
    all_goals exact ⟨rfl, hb1⟩
  · have hkn : key.size = 32 ∧ nonce.size = 12 := by omega
    rw [sealF, if_neg h]
    have HK := Lib.hid hkn
    clear h hkn
    by_cases hl : 4000 < beside.size ∨ 4000 < s.size
    · rw [if_pos hl]
      by_cases hl1 : 4000 < beside.size
      · have t1 : decide (4000 < (beside.size : Int)) = true := by simp; omega
        clear hl
        go_enter Tryz.func89, Tryz.ntmps89
        go_wp2_with fail
        refine (once_good key nonce w HK.out.1 HK.out.2 hG).mono ?_
        rintro e w1 ⟨rfl, hb1⟩
        go_wp2_with fail
        all_goals go_ret2
        all_goals exact ⟨rfl, hb1⟩
      · have t1 : decide (4000 < (beside.size : Int)) = false := by simp; omega
        have t2 : decide (4000 < (s.size : Int)) = true := by simp; omega
        clear hl hl1
        go_enter Tryz.func89, Tryz.ntmps89
        go_wp2_with fail
        refine (once_good key nonce w HK.out.1 HK.out.2 hG).mono ?_
        rintro e w1 ⟨rfl, hb1⟩
        go_wp2_with fail
        all_goals go_ret2
        all_goals exact ⟨rfl, hb1⟩
    · rw [if_neg hl]
      have t1 : decide (4000 < (beside.size : Int)) = false := by simp; omega
      have t2 : decide (4000 < (s.size : Int)) = false := by simp; omega
      have hl1 : beside.size ≤ 4000 := by omega
      have hl2 : s.size ≤ 4000 := by omega
      clear hl
      obtain ⟨o, ho⟩ : ∃ o, onceB key nonce = o := ⟨_, rfl⟩
      have hos : o.size = 32 := by rw [← ho]; exact onceB_size HK.out.1 HK.out.2
      obtain ⟨hd, hhd⟩ : ∃ x, hideB key nonce 1 s = x := ⟨_, rfl⟩
      have hhs : hd.size ≤ 4000 := by rw [← hhd, hideB_size]; exact hl2
      obtain ⟨td, htd⟩ : ∃ x, stoldB beside hd = x := ⟨_, rfl⟩
      have hts : td.size ≤ 8200 := by rw [← htd]; have := stold_len beside hd 4000 hl1 hhs; omega
      obtain ⟨tg, htg⟩ : ∃ x, tagB o td = x := ⟨_, rfl⟩
      have HO := Lib.hid (And.intro ho hos)
      have HD := Lib.hid (And.intro hhd hhs)
      have HT := Lib.hid (And.intro htd hts)
      have htgs : tg.size ≤ 16 := by rw [← htg, tagB_size]; exact Nat.le_refl _
      have HTG := Lib.hid (And.intro htg htgs)
      rw [ho, hhd, htd, htg]
      have HG := Lib.hid hG
      clear ho hos hhd hhs htd hts htg hG htgs
      go_enter Tryz.func89, Tryz.ntmps89
      go_wp2_with fail
      refine (once_good key nonce w HK.out.1 HK.out.2 HG.out).mono ?_
      rintro e w1 ⟨rfl, hb1⟩
      rw [HO.out.1]
      go_wp2_with fail
      refine (crypt_any key nonce s 1 w1 HK.out.1 HK.out.2 hl2 (by omega) (HG.out.below hb1 HG.out.pos)).mono ?_
      rintro e w2 ⟨rfl, hb2⟩
      rw [HD.out.1]
      have hB2 := hb1.trans (hb2.mono hb1.size)
      clear hb1 hb2
      go_wp2_with fail
      refine (stold_any beside hd w2 (by omega) (by have := HD.out.2; omega)).mono ?_
      rintro e w3 ⟨rfl, hb3⟩
      rw [HT.out.1]
      have hB3 := hB2.trans (hb3.mono hB2.size)
      clear hb3 hB2
      go_wp2_with fail
      refine (tag_any o td w3 HO.out.2 HT.out.2).mono ?_
      rintro e w4 ⟨rfl, hb4⟩
      rw [HTG.out.1]
      have hB4 := hB3.trans (hb4.mono hB3.size)
      clear hb4 hB3
      have hq1 := HD.out.2
      have hq2 := HTG.out.2
      go_wp2_with fail
      all_goals go_ret2
      all_goals exact ⟨rfl, hB4⟩
set_option maxRecDepth 100000 in
theorem fits_any (o beside s : ByteArray) (w : World) (ho : o.size = 32) (hb : beside.size ≤ 4000) (hs : s.size ≤ 4016) (h16 : 16 ≤ s.size) :
    Calls Tryz.prog 119 #[.string o, .string beside, .string s] w fun e w' => e = .returned (.bool ((tagB o (stoldB beside (headB s))).toList == (tailB s).toList)) ∧ Below w.heap.size w w' := by
  obtain ⟨at_, hat⟩ : ∃ a, s.size - 16 = a := ⟨_, rfl⟩
  have hai : (s.size : Int) - 16 = (at_ : Int) := by omega
  have ha2 : at_ ≤ s.size := by omega
  have ha3 : (at_ : Int) ≤ (s.size : Int) := by omega
  have ha0 : (0 : Int) ≤ (at_ : Int) := by omega
  obtain ⟨hd, hhd⟩ : ∃ x, s.extract 0 at_ = x := ⟨_, rfl⟩
  obtain ⟨tl, htl⟩ : ∃ x, s.extract at_ s.size = x := ⟨_, rfl⟩
  have hhs : hd.size ≤ 4000 := by rw [← hhd]; simp; omega
  obtain ⟨td, htd⟩ : ∃ x, stoldB beside hd = x := ⟨_, rfl⟩
  have hts : td.size ≤ 8200 := by rw [← htd]; have := stold_len beside hd 4000 hb hhs; omega
  obtain ⟨tg, htg⟩ : ∃ x, tagB o td = x := ⟨_, rfl⟩
  have hr : ((tagB o (stoldB beside (headB s))).toList == (tailB s).toList) = (tg.toList == tl.toList) := by rw [headB, tailB, hat, hhd, htl, htd, htg]
  rw [hr]
  have HD := Lib.hid (And.intro hhd hhs)
  have HTL := Lib.hid (And.intro htl hat)
  have HT := Lib.hid (And.intro htd hts)
  have HTG := Lib.hid (And.intro htg hr)
  clear hhd hhs htl hat htd hts htg hr
  go_enter Tryz.func119, Tryz.ntmps119
  go_wp2_with fail
  rw [HD.out.1]
  refine (stold_any beside hd w (by omega) (by have := HD.out.2; omega)).mono ?_
  rintro e w3 ⟨rfl, hb3⟩
  rw [HT.out.1]
  go_wp2_with fail
  refine (tag_any o td w3 ho HT.out.2).mono ?_
  rintro e w4 ⟨rfl, hb4⟩
  rw [HTG.out.1]
  have hB4 := hb3.trans (hb4.mono hb3.size)
  clear hb4 hb3
  go_wp2_with fail
  rw [HTL.out.1]
  refine (same_dig tg tl w4).mono ?_
  rintro e w5 ⟨rfl, rfl⟩
  go_wp2_with fail
  go_ret
  exact ⟨rfl, hB4⟩
set_option maxRecDepth 100000 in
theorem open_any (key nonce beside s : ByteArray) (w : World) (hG : Turns w) (hb : beside.size ≤ 140737488351232) (hs : s.size ≤ 140737488351232) :
    Calls Tryz.prog 93 #[.string key, .string nonce, .string beside, .string s] w fun e w' => e = .returned (.tuple #[.string (openF key nonce beside s).1, .int .i64 (openF key nonce beside s).2]) ∧ Below w.heap.size w w' := by
  by_cases h : key.size ≠ 32 ∨ nonce.size ≠ 12
  · rw [openF, if_pos h]
    have HH := Lib.hid h
    clear h
    go_enter Tryz.func93, Tryz.ntmps93
    go_wp2_with fail
    refine (once_bad key nonce w HH.out).mono ?_
    rintro e w1 ⟨rfl, hb1⟩
    go_wp2_with fail
    all_goals go_ret2
    all_goals exact ⟨rfl, hb1⟩
  · have hkn : key.size = 32 ∧ nonce.size = 12 := by omega
    rw [openF, if_neg h]
    have HK := Lib.hid hkn
    have HG := Lib.hid hG
    clear h hkn hG
    by_cases hl : 4000 < beside.size ∨ 4016 < s.size
    · rw [if_pos hl]
      by_cases hl1 : 4000 < beside.size
      · have t1 : decide (4000 < (beside.size : Int)) = true := by simp; omega
        clear hl
        go_enter Tryz.func93, Tryz.ntmps93
        go_wp2_with fail
        refine (once_good key nonce w HK.out.1 HK.out.2 HG.out).mono ?_
        rintro e w1 ⟨rfl, hb1⟩
        go_wp2_with fail
        all_goals go_ret2
        all_goals exact ⟨rfl, hb1⟩
      · have t1 : decide (4000 < (beside.size : Int)) = false := by simp; omega
        have t2 : decide (4016 < (s.size : Int)) = true := by simp; omega
        clear hl hl1
        go_enter Tryz.func93, Tryz.ntmps93
        go_wp2_with fail
        refine (once_good key nonce w HK.out.1 HK.out.2 HG.out).mono ?_
        rintro e w1 ⟨rfl, hb1⟩
        go_wp2_with fail
        all_goals go_ret2
        all_goals exact ⟨rfl, hb1⟩
    · rw [if_neg hl]
      have t1 : decide (4000 < (beside.size : Int)) = false := by simp; omega
      have t2 : decide (4016 < (s.size : Int)) = false := by simp; omega
      have hl1 : beside.size ≤ 4000 := by omega
      have hl2 : s.size ≤ 4016 := by omega
      clear hl
      by_cases h16 : s.size < 16
      · rw [if_pos (.inl h16)]
        have t3 : decide ((s.size : Int) < 16) = true := by simp; omega
        go_enter Tryz.func93, Tryz.ntmps93
        go_wp2_with fail
        refine (once_good key nonce w HK.out.1 HK.out.2 HG.out).mono ?_
        rintro e w1 ⟨rfl, hb1⟩
        go_wp2_with fail
        all_goals go_ret2
        all_goals exact ⟨rfl, hb1⟩
      · have t3 : decide ((s.size : Int) < 16) = false := by simp; omega
        obtain ⟨o, ho⟩ : ∃ o, onceB key nonce = o := ⟨_, rfl⟩
        have hos : o.size = 32 := by rw [← ho]; exact onceB_size HK.out.1 HK.out.2
        obtain ⟨F, hF⟩ : ∃ F, fitsB key nonce beside s = F := ⟨_, rfl⟩
        have hF2 : ((tagB o (stoldB beside (headB s))).toList == (tailB s).toList) = F := by rw [← hF, fitsB, ho]
        have HO := Lib.hid (And.intro ho (And.intro hos hF2))
        rw [hF]
        have h16' : 16 ≤ s.size := by omega
        clear ho hos hF hF2
        cases F with
        | false =>
          rw [if_pos (.inr rfl)]
          go_enter Tryz.func93, Tryz.ntmps93
          go_wp2_with fail
          refine (once_good key nonce w HK.out.1 HK.out.2 HG.out).mono ?_
          rintro e w1 ⟨rfl, hb1⟩
          rw [HO.out.1]
          go_wp2_with fail
          refine (fits_any o beside s w1 HO.out.2.1 hl1 hl2 h16').mono ?_
          rintro e w2 ⟨rfl, hb2⟩
          rw [HO.out.2.2]
          have hB2 := hb1.trans (hb2.mono hb1.size)
          go_wp2_with fail
          all_goals go_ret2
          all_goals exact ⟨rfl, hB2⟩
        | true =>
          rw [if_neg (by simp; omega)]
          obtain ⟨at_, hat⟩ : ∃ a, s.size - 16 = a := ⟨_, rfl⟩
          have hai : (s.size : Int) - 16 = (at_ : Int) := by omega
          have ha3 : (at_ : Int) ≤ (s.size : Int) := by omega
          have ha0 : (0 : Int) ≤ (at_ : Int) := by omega
          obtain ⟨hd, hhd⟩ : ∃ x, headB s = x := ⟨_, rfl⟩
          have hhd2 : s.extract 0 at_ = hd := by rw [← hhd, headB, hat]
          have hhs : hd.size ≤ 4000 := by rw [← hhd2]; simp; omega
          have HD := Lib.hid (And.intro hhd2 hhs)
          rw [hhd]
          clear hat hhd hhd2 hhs
          go_enter Tryz.func93, Tryz.ntmps93
          go_wp2_with fail
          refine (once_good key nonce w HK.out.1 HK.out.2 HG.out).mono ?_
          rintro e w1 ⟨rfl, hb1⟩
          rw [HO.out.1]
          go_wp2_with fail
          refine (fits_any o beside s w1 HO.out.2.1 hl1 hl2 h16').mono ?_
          rintro e w2 ⟨rfl, hb2⟩
          rw [HO.out.2.2]
          have hB2 := hb1.trans (hb2.mono hb1.size)
          clear hb1 hb2
          go_wp2_with fail
          rw [HD.out.1]
          refine (crypt_any key nonce hd 1 w2 HK.out.1 HK.out.2 HD.out.2 (by omega) (HG.out.below hB2 HG.out.pos)).mono ?_
          rintro e w3 ⟨rfl, hb3⟩
          have hB3 := hB2.trans (hb3.mono hB2.size)
          go_wp2_with fail
          all_goals go_ret2
          all_goals exact ⟨rfl, hB3⟩
end Go.Proofs.YtpkomloblhbkiaaGreatDoor
/- Chapter 6: what is sealed is opened (plain); the chapter's rows. -/
namespace Go.Proofs.YtpkomloblhbkiaaGreatDoor
open Go.RowKit
theorem ba_eq {a b : ByteArray} (h : a.data = b.data) : a = b := by cases a; cases b; simp_all
theorem front_append (a b : ByteArray) : (a ++ b).extract 0 a.size = a := ba_eq (by
  rw [ByteArray.data_extract, ByteArray.data_append]
  show (a.data ++ b.data).extract 0 a.data.size = a.data
  simp)
theorem back_append (a b : ByteArray) : (a ++ b).extract a.size (a ++ b).size = b := ba_eq (by
  have h : (a ++ b).size = (a.data ++ b.data).size := by rw [← ByteArray.data_append]; rfl
  rw [h, ByteArray.data_extract, ByteArray.data_append]
  show (a.data ++ b.data).extract a.data.size (a.data ++ b.data).size = b.data
  rw [Array.extract_append, Array.extract_empty_of_size_le_start (Nat.le_refl _)]
  simp)
theorem seal_ok {key nonce beside s a : ByteArray} (h : sealF key nonce beside s = (a, 0)) : key.size = 32 ∧ nonce.size = 12 ∧ beside.size ≤ 4000 ∧ s.size ≤ 4000 ∧ a = hideB key nonce 1 s ++ tagB (onceB key nonce) (stoldB beside (hideB key nonce 1 s)) := by
  unfold sealF at h
  by_cases h1 : key.size ≠ 32 ∨ nonce.size ≠ 12
  · rw [if_pos h1] at h; exact absurd (Prod.mk.inj h).2 (by decide)
  · rw [if_neg h1] at h
    by_cases h2 : 4000 < beside.size ∨ 4000 < s.size
    · rw [if_pos h2] at h; exact absurd (Prod.mk.inj h).2 (by decide)
    · rw [if_neg h2] at h
      exact ⟨by omega, by omega, by omega, by omega, ((Prod.mk.inj h).1).symm⟩
theorem sealed_parts (h t : ByteArray) (ht : t.size = 16) : headB (h ++ t) = h ∧ tailB (h ++ t) = t ∧ (h ++ t).size = h.size + 16 := by
  have hs : (h ++ t).size = h.size + 16 := by rw [ByteArray.size_append, ht]
  have h1 : (h ++ t).size - 16 = h.size := by omega
  exact ⟨by rw [headB, h1]; exact front_append h t, by rw [tailB, h1]; exact back_append h t, hs⟩
theorem seal_size {key nonce beside s a : ByteArray} (h : sealF key nonce beside s = (a, 0)) : a.size = s.size + 16 := by
  obtain ⟨_, _, _, _, rfl⟩ := seal_ok h
  rw [(sealed_parts _ _ (tagB_size _ _)).2.2, hideB_size]
/-- what is sealed is opened as it was -/
theorem seal_open {key nonce beside s a : ByteArray} (h : sealF key nonce beside s = (a, 0)) : openF key nonce beside a = (s, 0) := by
  have hs := seal_size h
  obtain ⟨hk, hn, hb, hl, rfl⟩ := seal_ok h
  obtain ⟨p1, p2, p3⟩ := sealed_parts (hideB key nonce 1 s) (tagB (onceB key nonce) (stoldB beside (hideB key nonce 1 s))) (tagB_size _ _)
  unfold openF
  rw [if_neg (by omega), if_neg (by omega), if_neg]
  · rw [p1, hide_hide]
  · rintro (h | h)
    · omega
    · rw [fitsB, p1, p2] at h
      simp at h
end Go.Proofs.YtpkomloblhbkiaaGreatDoor
