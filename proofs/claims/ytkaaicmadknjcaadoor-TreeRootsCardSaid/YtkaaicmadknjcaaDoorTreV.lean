/- the walk of TreeRoots. -/
import Derived.Test.YtkaaicmadknjcaaDoorTreS
import Derived.Test.YtkaaicmadknjcaaDoorTreU
set_option linter.unusedVariables false
set_option linter.unusedSimpArgs false
namespace Go.Proofs.YtkaaicmadknjcaaDoor
open Go.RowKit
theorem srow_block {w : World} {base n c : Nat} {A : Option Addr} {L : List ByteArray} (h : SRow w base (.slice A n c) L) (hl : L.length = n) : 0 < n → ∃ g cur, A = some ⟨g, 0, none⟩ ∧ base ≤ g ∧ Blk w g 9 cur ∧ n ≤ cur.size := by
  intro h0
  rcases h.2 with ⟨_, hz⟩ | ⟨g, cap, cur, hv, hb, hg, h1, h2, h3, h4⟩
  · omega
  · injection hv with hA _ _
    exact ⟨g, cur, hA, hb, hg, by omega⟩
theorem pathV_len (l : List ByteArray) (i : Int) : (pathV l i).length ≤ 10 := by
  unfold pathV
  split
  · rename_i h
    rw [pathB_len]
    exact (hgt_may (path_yes h).1).2
  · simp
set_option maxRecDepth 100000 in
set_option maxHeartbeats 1000000 in
theorem troots_in (l : List ByteArray) (i : Int) (a b : ByteArray) (A : Option Addr) (n c : Nat) (w : World) (hG : Rounds w) (hL : SlR encS 1 w w.heap.size A n l) (hn : n ≤ 1100) (hs : ∀ s ∈ l, s.size ≤ 200) (hbig : bigT l = false) (ha : a.size ≤ 300) (hb : b.size ≤ 300) :
    Calls Tryd.prog 18 #[.slice A n c, .int .i64 i, .string a, .string b] w fun e w' => e = .returned (.bool true) ∧ Below w.heap.size w w' := by
  have HL := Lib.hid hL
  have HG := Lib.hid hG
  have HBig := Lib.hid (bigt_any l A n c w hL (by omega))
  rw [hbig] at HBig
  have HOwn := Lib.hid (owns_any l A n c w hL (by omega))
  have Hs : Hid (∀ s ∈ l, s.size ≤ 140737488351232) := Lib.hid (fun s h => by have := hs s h; omega)
  have Hs2 : Hid (∀ s ∈ l, s.size ≤ 900000) := Lib.hid (fun s h => by have := hs s h; omega)
  obtain ⟨V, hV⟩ : ∃ v, rootV l = v := ⟨_, rfl⟩
  obtain ⟨E, hE⟩ : ∃ v, rootE l = v := ⟨_, rfl⟩
  obtain ⟨P, hP⟩ : ∃ v, pathV l i = v := ⟨_, rfl⟩
  obtain ⟨F, hF⟩ : ∃ v, pathE l i = v := ⟨_, rfl⟩
  have hPl : P.length ≤ 10 := by rw [← hP]; exact pathV_len l i
  have HPP : Hid (∀ w e w', PathPost l i w e w' → Below w.heap.size w w' ∧ ∃ A c, e = .returned (.tuple #[.slice A P.length c, .int .i64 F]) ∧ Hid (SRow w' w.heap.size (.slice A P.length c) P)) := Lib.hid (fun w e w' h => by
    unfold PathPost at h
    rwa [hP, hF] at h)
  have HR : Hid (∀ (W : World), Rounds W → SlR encS 1 W W.heap.size A n l → Calls Tryd.prog 60 #[.slice A n c] W fun e w' => e = .returned (.tuple #[.string V, .int .i64 E]) ∧ Below W.heap.size W w') := Lib.hid (fun W h1 h2 => by rw [← hV, ← hE]; exact troot_any l A n c W h1 h2 (by omega) Hs.out)
  have HRR : Hid (∀ (W : World) A c, SlR encS 1 W W.heap.size A n l → Calls Tryd.prog 61 #[.slice A n c] W fun e w' => e = .returned (.tuple #[.string V, .int .i64 E]) ∧ Below W.heap.size W w') := Lib.hid (fun W A c h2 => by rw [← hV, ← hE]; exact rroot_any l A n c W h2 (by omega) Hs2.out)
  obtain ⟨la, hla⟩ : ∃ v, leafS a = v := ⟨_, rfl⟩
  obtain ⟨nd, hnd⟩ : ∃ v, nodeS a b = v := ⟨_, rfl⟩
  have HLa : Hid (∀ W, Rounds W → Calls Tryd.prog 64 #[.string a] W fun r w' => r = .returned (.string la) ∧ Below W.heap.size W w') := Lib.hid (fun W h => by rw [← hla]; exact leaf_any _ W h (by omega))
  have HLr : Hid (∀ W, Calls Tryd.prog 65 #[.string a] W fun r w' => r = .returned (.string la) ∧ Below W.heap.size W w') := Lib.hid (fun W => by rw [← hla]; exact rleaf_any _ W (by omega))
  have HNd : Hid (∀ W, Rounds W → Calls Tryd.prog 66 #[.string a, .string b] W fun r w' => r = .returned (.string nd) ∧ Below W.heap.size W w') := Lib.hid (fun W h => by rw [← hnd]; exact node_any a b W h (by omega) (by omega))
  have HNr : Hid (∀ W, Calls Tryd.prog 67 #[.string a, .string b] W fun r w' => r = .returned (.string nd) ∧ Below W.heap.size W w') := Lib.hid (fun W => by rw [← hnd]; exact rnode_any a b W (by omega) (by omega))
  have t1 : (E == E) = true := by simp
  have t2 : (F == F) = true := by simp
  clear hV hE hP hF hla hnd hL hG hs hbig
  go_enter Tryd.func18, Tryd.ntmps18
  go_wp2_with fail
  refine HBig.out.mono ?_
  rintro e w0 ⟨rfl, rfl⟩
  go_wp2_with fail
  refine HOwn.out.mono ?_
  rintro e w1 ⟨hB1, A1, c1, rfl, HO⟩
  have HL1 := Lib.hid ((HL.out.below hB1).more hB1.size)
  have HO1 := Lib.hid (srow_slr HO.out HL.out.1)
  clear HBig HOwn HO
  go_wp2_with fail
  refine (HR.out _ (rounds_of HG.out hB1) HL1.out).mono ?_
  rintro e w2 ⟨rfl, hb2⟩
  have hB2 := hB1.trans (hb2.mono hB1.size)
  have HL2 := Lib.hid ((HL1.out.below hb2).more hb2.size)
  have HO2 := Lib.hid ((HO1.out.below hb2).more hb2.size)
  clear HL1 HO1 hb2 hB1
  go_wp2_with fail
  refine (HRR.out _ _ _ HO2.out).mono ?_
  rintro e w3 ⟨rfl, hb3⟩
  have hB3 := hB2.trans (hb3.mono hB2.size)
  have HL3 := Lib.hid ((HL2.out.below hb3).more hb3.size)
  have HO3 := Lib.hid ((HO2.out.below hb3).more hb3.size)
  clear HL2 HO2 hb3 hB2
  go_wp2_with fail
  refine (tpath_any l A n c i _ (rounds_of HG.out hB3) HL3.out (by omega) Hs.out).mono ?_
  rintro e w4 hpost
  obtain ⟨hb4, A4, c4, rfl, HR4⟩ := HPP.out _ _ _ hpost
  have hz3 := hB3.size
  have hB4 := hB3.trans (hb4.mono hz3)
  have HL4 := Lib.hid (HL3.out.below hb4)
  have HO4 := Lib.hid (HO3.out.below hb4)
  have hz4 := hb4.size
  clear hpost HL3 HO3 hb4
  go_wp2_with fail
  refine (rpath_any l A1 n c1 i _ (HO4.out.more hz4) (by omega) Hs2.out).mono ?_
  rintro e w5 hpost
  obtain ⟨hb5, A5, c5, rfl, HR5⟩ := HPP.out _ _ _ hpost
  have hB5 := hB4.trans (hb5.mono hB4.size)
  have HL5 := Lib.hid (HL4.out.below (hb5.mono hz4))
  have HO5 := Lib.hid (HO4.out.below (hb5.mono hz4))
  have HQ5 := Lib.hid (orow_below HR4.out hb5 (Nat.le_refl _))
  have hz5 := Nat.le_trans hz4 hb5.size
  clear hpost HL4 HO4 hb5 HR4 hB4 hz4 HPP
  go_wp2_with fail
  refine (texts_any P P A4 A5 P.length P.length c4 c5 _ (srow_slr HQ5.out rfl) (srow_slr HR5.out rfl) (by omega) (by omega)).mono ?_
  rintro e w6 ⟨rfl, hb6⟩
  rw [textsB_self]
  have hB6 := hB5.trans (hb6.mono hB5.size)
  have HL6 := Lib.hid (HL5.out.below (hb6.mono hz5))
  have HO6 := Lib.hid (HO5.out.below (hb6.mono hz5))
  have HQ6 := Lib.hid (orow_below HQ5.out hb6 (Nat.le_refl _))
  have hz6 := Nat.le_trans hz5 hb6.size
  clear HL5 HO5 hb6 HQ5 HR5 hB5 hz5
  go_wp2_with fail
  refine (HLa.out _ (rounds_of HG.out hB6)).mono ?_
  rintro e w7 ⟨rfl, hb7⟩
  have hB7 := hB6.trans (hb7.mono hB6.size)
  have HL7 := Lib.hid (HL6.out.below (hb7.mono hz6))
  have HO7 := Lib.hid (HO6.out.below (hb7.mono hz6))
  have HQ7 := Lib.hid (orow_below HQ6.out hb7 (Nat.le_refl _))
  have hz7 := Nat.le_trans hz6 hb7.size
  clear HL6 HO6 hb7 HQ6 hB6 hz6
  go_wp2_with fail
  refine (HLr.out _).mono ?_
  rintro e w8 ⟨rfl, hb8⟩
  have hB8 := hB7.trans (hb8.mono hB7.size)
  have HL8 := Lib.hid (HL7.out.below (hb8.mono hz7))
  have HO8 := Lib.hid (HO7.out.below (hb8.mono hz7))
  have HQ8 := Lib.hid (orow_below HQ7.out hb8 (Nat.le_refl _))
  have hz8 := Nat.le_trans hz7 hb8.size
  clear HL7 HO7 hb8 HQ7 hB7 hz7
  go_wp2_with fail
  refine (HNd.out _ (rounds_of HG.out hB8)).mono ?_
  rintro e w9 ⟨rfl, hb9⟩
  have hB9 := hB8.trans (hb9.mono hB8.size)
  have HL9 := Lib.hid (HL8.out.below (hb9.mono hz8))
  have HO9 := Lib.hid (HO8.out.below (hb9.mono hz8))
  have HQ9 := Lib.hid (orow_below HQ8.out hb9 (Nat.le_refl _))
  have hz9 := Nat.le_trans hz8 hb9.size
  clear HL8 HO8 hb9 HQ8 hB8 hz8
  go_wp2_with fail
  refine (HNr.out _).mono ?_
  rintro e wp ⟨rfl, hb10⟩
  have hB10 := hB9.trans (hb10.mono hB9.size)
  have HL10 := Lib.hid (HL9.out.below (hb10.mono hz9))
  have HO10 := Lib.hid (HO9.out.below (hb10.mono hz9))
  have HQ10 := Lib.hid (srow_block (orow_below HQ9.out hb10 (Nat.le_refl _)) rfl)
  have hz10 := Nat.le_trans hz9 hb10.size
  clear HL9 HO9 hb10 HQ9 hB9 hz9 HLa HLr HNd HNr HR HRR
  generalize P.length = m at *
  go_wp2_with fail
  go_loopw [19] (fun kv wr => ∃ k : Nat, k ≤ m ∧ kv = .int .i64 k ∧ Hid (0 < m → ∃ g cur, A4 = some ⟨g, 0, none⟩ ∧ w3.heap.size ≤ g ∧ Blk wr g 9 cur ∧ m ≤ cur.size) ∧ Below w3.heap.size wp wr) (fun kv _ => m - (intOf kv).toNat)
  case atStart => exact ⟨0, Nat.zero_le _, rfl, HQ10, Below.refl _ _⟩
  case round =>
    obtain ⟨k, hk, rfl, HQ, hB⟩ := hrel
    by_cases hlt : k < m
    · obtain ⟨g, cur, rfl, hg, hblk, hcs⟩ := HQ.out (by omega)
      have c0 := hblk.cells k _ (Array.getElem?_eq_getElem (by omega))
      have f0 := hblk.frozen k
      have HB := Lib.hid hblk
      have i0 : (0 : Int) ≤ (k : Int) := by omega
      have i1 : (k : Int) < (m : Int) := by omega
      clear hblk
      go_wp2_with fail
      go_roundw
      case rel => exact ⟨k + 1, by omega, by go_num, Lib.hid (fun _ => ⟨g, _, rfl, hg, HB.out.set_ k _, by simp; omega⟩), hB.setCell hg _⟩
      case measure => simp [intOf]; omega
    · have HLr : Hid (SlR encS 1 wr wr.heap.size A n l) := Lib.hid ((HL10.out.below hB).more (Nat.le_trans hz10 hB.size))
      have HOr : Hid (SlR encS 1 wr wr.heap.size A1 n l) := Lib.hid ((HO10.out.below hB).more (Nat.le_trans hz10 hB.size))
      have HBr : Hid (Below w.heap.size w wr) := Lib.hid (hB10.trans (hB.mono hz3))
      clear HQ hB HL10 HO10 HQ10 hB10 hz3 hz10 hB3
      go_wp2_with fail
      refine (roots_any _ (rounds_of HG.out HBr.out)).mono ?_
      rintro e w11 ⟨rfl, hb11⟩
      have HB11 := Lib.hid (HBr.out.trans (hb11.mono HBr.out.size))
      have HL11 := Lib.hid ((HLr.out.below hb11).more hb11.size)
      have HO11 := Lib.hid ((HOr.out.below hb11).more hb11.size)
      clear hb11 HLr HOr HBr
      go_wp2_with fail
      refine (texts_any l l A A1 n n c c1 _ HL11.out HO11.out (by omega) (by omega)).mono ?_
      rintro e w12 ⟨rfl, hb12⟩
      rw [textsB_self]
      have HB12 := Lib.hid (HB11.out.trans (hb12.mono HB11.out.size))
      clear hb12 HL11 HO11 HB11
      go_wp2_with fail
      go_ret
      exact ⟨rfl, HB12.out⟩
theorem troots_all (l : List ByteArray) (i : Int) (a b : ByteArray) (A : Option Addr) (n c : Nat) (w : World) (hG : Rounds w) (hL : SlR encS 1 w w.heap.size A n l) (hn : n ≤ 140737488351232) (ha : a.size ≤ 140737488351232) (hb : b.size ≤ 140737488351232) :
    Calls Tryd.prog 18 #[.slice A n c, .int .i64 i, .string a, .string b] w fun e w' => e = .returned (.bool true) ∧ Below w.heap.size w w' := by
  have HBig := Lib.hid (bigt_any l A n c w hL hn)
  cases hbig : bigT l
  · rw [hbig] at HBig
    by_cases h1 : 300 < a.size
    · clear hL hbig hG
      go_enter Tryd.func18, Tryd.ntmps18
      go_wp2_with fail
      refine HBig.out.mono ?_
      rintro e w0 ⟨rfl, rfl⟩
      go_wp2_with fail
      go_ret
      exact ⟨rfl, Below.refl _ _⟩
    · by_cases h2 : 300 < b.size
      · clear hL hbig hG
        go_enter Tryd.func18, Tryd.ntmps18
        go_wp2_with fail
        refine HBig.out.mono ?_
        rintro e w0 ⟨rfl, rfl⟩
        go_wp2_with fail
        go_ret
        exact ⟨rfl, Below.refl _ _⟩
      · obtain ⟨q1, q2, q3⟩ := bigT_no hbig
        exact troots_in l i a b A n c w hG hL (by rw [← hL.1]; exact q2) q3 hbig (by omega) (by omega)
  · rw [hbig] at HBig
    clear hL hbig hG
    go_enter Tryd.func18, Tryd.ntmps18
    go_wp2_with fail
    refine HBig.out.mono ?_
    rintro e w0 ⟨rfl, rfl⟩
    go_wp2_with fail
    go_ret
    exact ⟨rfl, Below.refl _ _⟩
end Go.Proofs.YtkaaicmadknjcaaDoor
