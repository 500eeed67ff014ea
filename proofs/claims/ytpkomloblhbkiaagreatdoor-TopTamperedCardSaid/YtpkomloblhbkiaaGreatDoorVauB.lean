/- vault, plain: what a head tells; what is opened. -/
import Derived.Test.YtpkomloblhbkiaaGreatDoorVauA
import Derived.Test.YtpkomloblhbkiaaGreatDoorNonG
set_option linter.unusedVariables false
set_option linter.unusedSimpArgs false
namespace Go.Proofs.YtpkomloblhbkiaaGreatDoor
open Go.RowKit
theorem byte_join (g i : Nat) (hi : i < 4) : byteAt (joinW [g] true) i = g / 2 ^ (24 - 8 * i) % 256 := by
  unfold byteAt joinW
  have h : ((List.range (4 * [g].length)).map fun t => UInt8.ofNat (joinByte [g] true t)).getD i 0 = UInt8.ofNat (joinByte [g] true i) := by
    rw [List.getD_eq_getElem?_getD, List.getElem?_map, List.getElem?_range (by simpa using hi)]
    rfl
  show (((List.range (4 * [g].length)).map fun t => UInt8.ofNat (joinByte [g] true t)).toArray.toList.getD i 0).toNat = _
  rw [List.toList_toArray, h, UInt8.toNat_ofNat']
  have : joinByte [g] true i = g / 2 ^ (24 - 8 * i) % 256 := by
    unfold joinByte belowW
    rw [show i / 4 = 0 by omega, show i % 4 = i by omega]
    rfl
  rw [this]
  omega
theorem or_add {a b i P : Nat} (hP : 2 ^ i = P) (h : b < P) : a * P ||| b = a * P + b := by
  subst hP
  rw [Nat.mul_comm, Nat.two_pow_add_eq_or_of_lt h]
theorem l1_ (b1 : Nat) (h1 : b1 < 256) : b1 * 65536 < 16777216 := by omega
theorem l2_ (b2 : Nat) (h2 : b2 < 256) : b2 * 256 < 65536 := by omega
theorem s1_ (b0 b1 : Nat) : b0 * 16777216 + b1 * 65536 = (b0 * 256 + b1) * 65536 := by omega
theorem s2_ (b0 b1 b2 : Nat) : (b0 * 256 + b1) * 65536 + b2 * 256 = ((b0 * 256 + b1) * 256 + b2) * 256 := by omega
theorem or_four (b0 b1 b2 b3 : Nat) (h1 : b1 < 256) (h2 : b2 < 256) (h3 : b3 < 256) : ((b0 * 16777216 ||| b1 * 65536) ||| b2 * 256) ||| b3 = ((b0 * 256 + b1) * 256 + b2) * 256 + b3 := by
  rw [or_add (i := 24) (by rfl) (l1_ b1 h1), s1_, or_add (i := 16) (by rfl) (l2_ b2 h2), s2_, or_add (i := 8) (by rfl) h3]
theorem cut_step {s : ByteArray} {i x : Nat} (hi : i < 4) (h : cutTo s true i = [x]) : cutTo s true (i + 1) = [x ||| byteAt s i * 2 ^ belowW true (i % 4)] := by
  rw [cutTo, h, show i / 4 = 0 by omega]
  generalize byteAt s i * 2 ^ belowW true (i % 4) = z
  rfl
theorem cut_start {s : ByteArray} (hs : s.size = 4) : cutTo s true 0 = [0] := by
  show List.replicate (s.size / 4) 0 = [0]
  rw [hs]; rfl
theorem cut_four {s : ByteArray} (hs : s.size = 4) : cutW s true = [((byteAt s 0 * 256 + byteAt s 1) * 256 + byteAt s 2) * 256 + byteAt s 3] := by
  have h := cut_step (i := 3) (by omega) (cut_step (i := 2) (by omega) (cut_step (i := 1) (by omega) (cut_step (i := 0) (by omega) (cut_start hs))))
  have q0 : (2 : Nat) ^ belowW true (0 % 4) = 16777216 := by decide
  have q1 : (2 : Nat) ^ belowW true (1 % 4) = 65536 := by decide
  have q2 : (2 : Nat) ^ belowW true (2 % 4) = 256 := by decide
  have q3 : (2 : Nat) ^ belowW true (3 % 4) = 1 := by decide
  rw [q0, q1, q2, q3, Nat.zero_or, Nat.mul_one, or_four _ _ _ _ (byteAt_lt s 1) (byteAt_lt s 2) (byteAt_lt s 3)] at h
  unfold cutW
  rw [hs]
  exact h
theorem cut_join (g : Nat) (hg : g < 4294967296) : cutW (joinW [g] true) true = [g] := by
  have hs : (joinW [g] true).size = 4 := by rw [joinW_size]; rfl
  have p0 : (2 : Nat) ^ (24 - 8 * 0) = 16777216 := by decide
  have p1 : (2 : Nat) ^ (24 - 8 * 1) = 65536 := by decide
  have p2 : (2 : Nat) ^ (24 - 8 * 2) = 256 := by decide
  have p3 : (2 : Nat) ^ (24 - 8 * 3) = 1 := by decide
  have h0 := byte_join g 0 (by omega)
  have h1 := byte_join g 1 (by omega)
  have h2 := byte_join g 2 (by omega)
  have h3 := byte_join g 3 (by omega)
  rw [p0] at h0
  rw [p1] at h1
  rw [p2] at h2
  rw [p3] at h3
  rw [cut_four hs, h0, h1, h2, h3]
  congr 1
  clear p0 p1 p2 p3 h0 h1 h2 h3
  omega
theorem vhead_size {g a : Nat} {root : ByteArray} (hr : root.size = 32) : (vheadB g a root).size = 37 := by
  unfold vheadB
  rw [ByteArray.size_append, ByteArray.size_append, joinW_size, hr]
  rfl
theorem vhead_back {g a : Nat} {root : ByteArray} (hg : g ≤ 1000000000) (ha : a ≤ 1) (hr : root.size = 32) : headV (vheadB g a root) = some (g, a, root) := by
  have hs := vhead_size (g := g) (a := a) hr
  have hJ : (joinW [g] true).size = 4 := by rw [joinW_size]; rfl
  have hJ1 : (joinW [g] true ++ ⟨#[UInt8.ofNat a]⟩).size = 5 := by rw [ByteArray.size_append, hJ]; rfl
  have h1 : wordB (vheadB g a root) = g := by
    unfold wordB vheadB
    rw [ByteArray.append_assoc]
    have := front_append (joinW [g] true) (⟨#[UInt8.ofNat a]⟩ ++ root)
    rw [hJ] at this
    rw [this, cut_join g (by omega)]
    rfl
  have h2 : byteAt (vheadB g a root) 4 = a := by
    unfold byteAt vheadB
    rw [ByteArray.data_append, ByteArray.data_append, Array.toList_append, Array.toList_append, List.append_assoc]
    have hl : (joinW [g] true).data.toList.length = 4 := by rw [Array.length_toList]; exact hJ
    rw [List.getD_eq_getElem?_getD, List.getElem?_append_right (by omega), hl]
    have h : a = 0 ∨ a = 1 := by omega
    rcases h with rfl | rfl <;> rfl
  have h3 : (vheadB g a root).extract 5 37 = root := by
    have := back_append (joinW [g] true ++ ⟨#[UInt8.ofNat a]⟩) root
    rw [hJ1] at this
    have h5 : vheadB g a root = joinW [g] true ++ ⟨#[UInt8.ofNat a]⟩ ++ root := rfl
    rw [← h5, hs] at this
    exact this
  unfold headV
  rw [if_pos hs, h1, h2, if_pos ⟨hg, ha⟩, h3]
structure Chest where
  n : Nat
  area : Nat
  gen : Nat
  vol : Vol
def noChest : Chest := ⟨0, 0, 0, noVol⟩
def sectorN (n a i : Nat) : Nat := 3 + a * n + i
def blocksOf (p : Plat) (n a : Nat) : List ByteArray := (List.range n).map fun i => (readF p (sectorN n a i : Nat)).1
theorem blocksOf_len (p : Plat) (n a : Nat) : (blocksOf p n a).length = n := by simp [blocksOf]
/-- what is opened -/
def openP (p : Plat) : Chest × Int :=
  if (vsizeF p.sectors.length).2 = false then (noChest, 160)
  else if (getF p 0).2.2 ≠ 0 then (noChest, (getF p 0).2.2)
  else match headV (getF p 0).1 with
    | none => (noChest, 160)
    | some (g, a, root) =>
      if volB ⟨blocksOf p (vsizeF p.sectors.length).1 a, root⟩ = false then (noChest, 160)
      else if rootedB ⟨blocksOf p (vsizeF p.sectors.length).1 a, root⟩ = false then (noChest, 161)
      else (⟨(vsizeF p.sectors.length).1, a, g, ⟨blocksOf p (vsizeF p.sectors.length).1 a, root⟩⟩, 0)
theorem get_absent {p : Plat} {i : Int} (h : (getF p i).2.2 = 0) (ht : (getF p i).2.1 = false) : (getF p i).1 = ⟨#[]⟩ := by
  obtain ⟨_, h1 | ⟨far, _, _, h3⟩⟩ := get_ok h
  · rw [h1.2]
  · rw [h3] at ht; cases ht
end Go.Proofs.YtpkomloblhbkiaaGreatDoor
