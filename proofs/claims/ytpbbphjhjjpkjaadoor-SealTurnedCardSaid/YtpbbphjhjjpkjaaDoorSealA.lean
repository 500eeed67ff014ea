/- seal: Once; what a Tag is told of. -/
import Derived.Test.YtpbbphjhjjpkjaaDoorStmD
import Derived.Test.YtpbbphjhjjpkjaaDoorBldB
set_option linter.unusedVariables false
namespace Go.Proofs.YtpbbphjhjjpkjaaDoor
open Go.RowKit
theorem block_bad (key nonce : ByteArray) (n : Nat) (w : World) (h : key.size ≠ 32 ∨ nonce.size ≠ 12) (hw : n < 4294967296) :
    Calls Tryd.prog 17 #[.string key, .string nonce, .int .i64 n] w fun e w' => e = .returned (.tuple #[.string ⟨#[]⟩, .int .i64 1]) ∧ Below w.heap.size w w' := by
  obtain ⟨hz, hisz⟩ := zero_of_info w16_info
  obtain ⟨Z, hZ⟩ : ∃ Z : Array Value, (List.replicate 16 (Value.int .i64 0)).toArray = Z := ⟨_, rfl⟩
  have hZ2 : zero16 = Z := hZ
  have hZo : Z.all (·.oneCell') = true := by
    rw [← hZ]
    exact all_oneCell_toArray fun v hv => by rw [List.eq_of_mem_replicate hv]; rfl
  rw [hZ] at hz
  have hZs : Z.size = 16 := by rw [← hZ, List.size_toArray, List.length_replicate]
  have HZs := Lib.hid (And.intro hZs hZo)
  have HI := Lib.hid hisz
  have HZ2 := Lib.hid hZ2
  clear hZ hZ2 hZo hZs hisz
  go_enter Tryd.func17, Tryd.ntmps17
  go_wp2_with fail
  refine (first_bad key nonce n w h hw).mono ?_
  rintro e w1 ⟨rfl, hb1⟩
  rw [HZ2.out]
  have hz1 := hb1.size
  go_wp2_with (first
    | (refine wpList_store_rowTo rfl 35 (.tmp 8) (.tmp 26) rfl rfl w1.heap.size Z rfl rfl 35 Z (Blk.new _ _ _) (by rw [HZs.out.1]; exact HI.out) rfl HZs.out.2 ?_; rw [World.setRow_alloc_new]))
  go_ret2
  exact ⟨rfl, hb1.alloc hz1 _⟩
def onceB (key nonce : ByteArray) : ByteArray := (blockB key nonce 0).extract 0 32
theorem onceB_size {key nonce : ByteArray} (hk : key.size = 32) (hn : nonce.size = 12) : (onceB key nonce).size = 32 := by
  have := blockB_size (key := key) (nonce := nonce) 0 hk hn
  simp [onceB, this]
theorem once_good (key nonce : ByteArray) (w : World) (hk : key.size = 32) (hn : nonce.size = 12) (hG : Turns w) :
    Calls Tryd.prog 10 #[.string key, .string nonce] w fun e w' => e = .returned (.tuple #[.string (onceB key nonce), .int .i64 0]) ∧ Below w.heap.size w w' := by
  obtain ⟨b, hb⟩ : ∃ b, blockB key nonce 0 = b := ⟨_, rfl⟩
  have hbs : b.size = 64 := by rw [← hb]; exact blockB_size 0 hk hn
  have HB := Lib.hid (And.intro hb hbs)
  have ho : onceB key nonce = b.extract 0 32 := by rw [onceB, hb]
  rw [ho]
  have h1 : (32 : Int) ≤ (b.size : Int) := by omega
  clear hb hbs ho
  go_enter Tryd.func10, Tryd.ntmps10
  go_wp2_with fail
  refine (block_good key nonce 0 w hk hn (by decide) hG).mono ?_
  rintro e w1 ⟨rfl, hb1⟩
  rw [HB.out.1]
  go_wp2_with fail
  go_ret2
  exact ⟨rfl, hb1⟩
theorem once_bad (key nonce : ByteArray) (w : World) (h : key.size ≠ 32 ∨ nonce.size ≠ 12) :
    Calls Tryd.prog 10 #[.string key, .string nonce] w fun e w' => e = .returned (.tuple #[.string ⟨#[]⟩, .int .i64 1]) ∧ Below w.heap.size w w' := by
  go_enter Tryd.func10, Tryd.ntmps10
  go_wp2_with fail
  refine (block_bad key nonce 0 w h (by decide)).mono ?_
  rintro e w1 ⟨rfl, hb1⟩
  go_wp2_with fail
  go_ret2
  exact ⟨rfl, hb1⟩
/-- up to a multiple of 16 -/
def fillL (l : List UInt8) (k : Nat) : List UInt8 := l ++ List.replicate k 0
def fillN (n : Nat) : Nat := (16 - n % 16) % 16
def padTo (L : List ByteArray) : Nat → List UInt8
  | 0 => []
  | k + 1 => fillL (padTo L k ++ (L.getD k ⟨#[]⟩).data.toList) (fillN (padTo L k ++ (L.getD k ⟨#[]⟩).data.toList).length)
def le8 (n k : Nat) : List UInt8 := (List.range k).map fun i => UInt8.ofNat (n / 2 ^ (8 * i) % 256)
def sizTo (L : List ByteArray) : Nat → List UInt8
  | 0 => padTo L L.length
  | k + 1 => sizTo L k ++ le8 (L.getD k ⟨#[]⟩).size 8
def toldB (b h : ByteArray) : ByteArray := ⟨(sizTo [b, h] 2).toArray⟩
theorem padTo_len (L : List ByteArray) (m : Nat) (hm : ∀ s ∈ L, s.size ≤ m) (k : Nat) : (padTo L k).length ≤ k * (m + 15) := by
  induction k with
  | zero => simp [padTo]
  | succ k ih =>
    have h1 : (L.getD k ⟨#[]⟩).size ≤ m := by
      rw [List.getD_eq_getElem?_getD]
      cases e : L[k]? with
      | none => exact Nat.zero_le _
      | some s => exact hm s (List.mem_of_getElem? e)
    have h2 : (L.getD k ⟨#[]⟩).data.toList.length = (L.getD k ⟨#[]⟩).size := by simp
    simp only [padTo, fillL, List.length_append, List.length_replicate, h2]
    have : fillN ((padTo L k).length + (L.getD k ⟨#[]⟩).size) ≤ 15 := by unfold fillN; omega
    rw [Nat.succ_mul]
    omega
theorem sizTo_len (L : List ByteArray) (k : Nat) : (sizTo L k).length = (padTo L L.length).length + 8 * k := by
  induction k with
  | zero => rfl
  | succ k ih => simp [sizTo, ih, le8]; omega
end Go.Proofs.YtpbbphjhjjpkjaaDoor
