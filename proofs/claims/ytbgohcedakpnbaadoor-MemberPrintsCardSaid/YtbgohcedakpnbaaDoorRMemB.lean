/- the reference's Own, Hex, Print. -/
import Derived.Test.YtbgohcedakpnbaaDoorRMemA
import Derived.Test.YtbgohcedakpnbaaDoorTexts
import Derived.Test.YtbgohcedakpnbaaDoorMemJ
import Derived.Test.YtbgohcedakpnbaaDoorNumR
import Derived.Test.YtbgohcedakpnbaaDoorOrows
import Derived.IntWalk
set_option linter.unusedVariables false
set_option linter.unusedSimpArgs false
namespace Go.Proofs.YtbgohcedakpnbaaDoor
open Go.RowKit
set_option maxRecDepth 100000 in
set_option maxHeartbeats 4000000 in
theorem rown_any (r : Rec) (A A' : Option Addr) (n c m d : Nat) (w : World) (hN : SlR encS 1 w w.heap.size A n r.names) (hP : SlR encS 1 w w.heap.size A' m r.pledges) (hn : n ≤ 1000) (hm : m ≤ 1000) :
    Calls Tryd.prog 11 #[recV r A n c A' m d] w fun e w' => ∃ (A1 A2 : Option Addr) (c1 d1 : Nat), e = .returned (recV r A1 n c1 A2 m d1) ∧ Hid (SRow w' w.heap.size (.slice A1 n c1) r.names) ∧ Hid (SRow w' w.heap.size (.slice A2 m d1) r.pledges) ∧ Below w.heap.size w w' := by
  have HON := Lib.hid (fun W (hW : Below w.heap.size w W) => owns_any r.names A n c W ((hN.below hW).more hW.size) (by omega))
  have HOP := Lib.hid (fun W (hW : Below w.heap.size w W) => owns_any r.pledges A' m d W ((hP.below hW).more hW.size) (by omega))
  have HX0 : Hid (∀ W, Below ((w.alloc (.cells #[.int .i64 r.epoch, .int .i64 r.k, .slice A n c, .slice A' m d] 24)).alloc (.cells #[.int .i64 0, .int .i64 0, .slice none 0 0, .slice none 0 0] 24)).heap.size ((w.alloc (.cells #[.int .i64 r.epoch, .int .i64 r.k, .slice A n c, .slice A' m d] 24)).alloc (.cells #[.int .i64 0, .int .i64 0, .slice none 0 0, .slice none 0 0] 24)) W → Blk W w.heap.size 24 #[.int .i64 r.epoch, .int .i64 r.k, .slice A n c, .slice A' m d] ∧ Blk W (w.heap.size + 1) 24 #[.int .i64 0, .int .i64 0, .slice none 0 0, .slice none 0 0] ∧ Below w.heap.size w W) := Lib.hid (fun W hW => ⟨((Blk.new w 24 #[.int .i64 r.epoch, .int .i64 r.k, .slice A n c, .slice A' m d]).alloc _).below hW (by simp; omega), (Blk.new_at (g := w.heap.size + 1) (by simp) _ _).below hW (by simp), Below.trans (by go_grown) (hW.mono (by simp; omega))⟩)
  clear hN hP
  unfold recV
  go_enter Tryd.func11, Tryd.ntmps11
  go_wp2_with fail
  obtain ⟨x1, _, _⟩ := HX0.out _ (Below.refl _ _)
  have q0 := x1.cells 0 _ rfl
  have q1 := x1.cells 1 _ rfl
  have q2 := x1.cells 2 _ rfl
  have q3 := x1.cells 3 _ rfl
  simp only [List.getElem_toArray, List.getElem_cons_zero, List.getElem_cons_succ] at q0 q1 q2 q3
  clear x1
  refine wp_region_Z 11 (fun W => Below ((w.alloc (.cells #[.int .i64 r.epoch, .int .i64 r.k, .slice A n c, .slice A' m d] 24)).alloc (.cells #[.int .i64 0, .int .i64 0, .slice none 0 0, .slice none 0 0] 24)).heap.size ((w.alloc (.cells #[.int .i64 r.epoch, .int .i64 r.k, .slice A n c, .slice A' m d] 24)).alloc (.cells #[.int .i64 0, .int .i64 0, .slice none 0 0, .slice none 0 0] 24)) W ∧ W.cell? ⟨w.heap.size, 0, none⟩ = some (.int .i64 r.epoch) ∧ W.cell? ⟨w.heap.size, 1, none⟩ = some (.int .i64 r.k) ∧ W.cell? ⟨w.heap.size, 2, none⟩ = some (.slice A n c) ∧ W.cell? ⟨w.heap.size, 3, none⟩ = some (.slice A' m d)) (by kernel_rfl) ?_
  have hHeld : (fun W => Below ((w.alloc (.cells #[.int .i64 r.epoch, .int .i64 r.k, .slice A n c, .slice A' m d] 24)).alloc (.cells #[.int .i64 0, .int .i64 0, .slice none 0 0, .slice none 0 0] 24)).heap.size ((w.alloc (.cells #[.int .i64 r.epoch, .int .i64 r.k, .slice A n c, .slice A' m d] 24)).alloc (.cells #[.int .i64 0, .int .i64 0, .slice none 0 0, .slice none 0 0] 24)) W ∧ W.cell? ⟨w.heap.size, 0, none⟩ = some (.int .i64 r.epoch) ∧ W.cell? ⟨w.heap.size, 1, none⟩ = some (.int .i64 r.k) ∧ W.cell? ⟨w.heap.size, 2, none⟩ = some (.slice A n c) ∧ W.cell? ⟨w.heap.size, 3, none⟩ = some (.slice A' m d)) _ := ⟨Still.below (Still.drew _), q0, q1, q2, q3⟩
  refine wpAnyZ_take (i := 0) (v := ?zv1) _ rfl (by kernel_rfl) (by kernel_rfl) (fun _ _ _ h => h) _ _ _ (by kernel_rfl) (by kernel_rfl) (Or.inl ⟨by rfl, ?zh1⟩) (by assumption) ?zr1
  case zh1 => (intro w hSw; (try dsimp only at hSw); go_simp; try with_reducible rfl)
  try simp only [Act.put, List.setIfInBounds_toArray, List.set_cons_zero, List.set_cons_succ]
  refine wpAnyZ_take (i := 1) (v := ?zv2) _ rfl (by kernel_rfl) (by kernel_rfl) (fun _ _ _ h => h) _ _ _ (by kernel_rfl) (by kernel_rfl) (Or.inl ⟨by rfl, ?zh2⟩) (by assumption) ?zr2
  case zh2 => (intro w hSw; (try dsimp only at hSw); go_simp; try with_reducible rfl)
  try simp only [Act.put, List.setIfInBounds_toArray, List.set_cons_zero, List.set_cons_succ]
  refine wpAnyZ_take (i := 2) (v := ?zv3) _ rfl (by kernel_rfl) (by kernel_rfl) (fun _ _ _ h => h) _ _ _ (by kernel_rfl) (by kernel_rfl) (Or.inl ⟨by rfl, ?zh3⟩) (by assumption) ?zr3
  case zh3 => (intro w hSw; (try dsimp only at hSw); go_simp; try with_reducible rfl)
  try simp only [Act.put, List.setIfInBounds_toArray, List.set_cons_zero, List.set_cons_succ]
  refine wpAnyZ_take (i := 3) (v := ?zv4) _ rfl (by kernel_rfl) (by kernel_rfl) (fun _ _ _ h => h) _ _ _ (by kernel_rfl) (by kernel_rfl) (Or.inl ⟨by rfl, ?zh4⟩) (by assumption) ?zr4
  case zh4 => (intro w hSw; (try dsimp only at hSw); go_simp; try with_reducible rfl)
  try simp only [Act.put, List.setIfInBounds_toArray, List.set_cons_zero, List.set_cons_succ]
  refine wpAnyZ_take (i := 4) (v := ?zv5) _ rfl (by kernel_rfl) (by kernel_rfl) (fun _ _ _ h => h) _ _ _ (by kernel_rfl) (by kernel_rfl) (Or.inl ⟨by rfl, ?zh5⟩) (by assumption) ?zr5
  case zh5 => (intro w hSw; (try dsimp only at hSw); go_simp; try with_reducible rfl)
  try simp only [Act.put, List.setIfInBounds_toArray, List.set_cons_zero, List.set_cons_succ]
  refine wpAnyZ_take (i := 5) (v := ?zv6) _ rfl (by kernel_rfl) (by kernel_rfl) (fun _ _ _ h => h) _ _ _ (by kernel_rfl) (by kernel_rfl) (Or.inl ⟨by rfl, ?zh6⟩) (by assumption) ?zr6
  case zh6 => (intro w hSw; (try dsimp only at hSw); go_simp; try with_reducible rfl)
  try simp only [Act.put, List.setIfInBounds_toArray, List.set_cons_zero, List.set_cons_succ]
  refine wpAnyZ_take (i := 7) (v := ?zv7) _ rfl (by kernel_rfl) (by kernel_rfl) (fun _ _ _ h => h) _ _ _ (by kernel_rfl) (by kernel_rfl) (Or.inl ⟨by rfl, ?zh7⟩) (by assumption) ?zr7
  case zh7 => (intro w hSw; (try dsimp only at hSw); go_simp; try with_reducible rfl)
  try simp only [Act.put, List.setIfInBounds_toArray, List.set_cons_zero, List.set_cons_succ]
  refine wpAnyZ_take (i := 8) (v := ?zv8) _ rfl (by kernel_rfl) (by kernel_rfl) (fun _ _ _ h => h) _ _ _ (by kernel_rfl) (by kernel_rfl) (Or.inl ⟨by rfl, ?zh8⟩) (by assumption) ?zr8
  case zh8 => (intro w hSw; (try dsimp only at hSw); go_simp; try with_reducible rfl)
  try simp only [Act.put, List.setIfInBounds_toArray, List.set_cons_zero, List.set_cons_succ]
  refine wpAnyZ_ready (rs := [6]) (by kernel_rfl) (by simp) ?_
  refine AllReadyZ.cons rfl (by decide) (fun K hK => ?_) AllReadyZ.nil
  rw [if_pos (by rfl)]
  simp only [List.getElem_toArray, List.getElem_cons_zero, List.getElem_cons_succ]
  have hPrev := Lib.hid hHeld
  clear hHeld
  go_simp
  refine (HON.out _ (HX0.out _ hPrev.out.1).2.2).mono ?_
  rintro e' w3 ⟨hb3, A1, c1, rfl, hS3⟩
  go_simp
  refine hK.out _ _ (⟨hPrev.out.1.trans (hb3.mono hPrev.out.1.size), (hb3.cell (World.block_lt_of_cell? _ _ hPrev.out.2.1)).trans hPrev.out.2.1, (hb3.cell (World.block_lt_of_cell? _ _ hPrev.out.2.2.1)).trans hPrev.out.2.2.1, (hb3.cell (World.block_lt_of_cell? _ _ hPrev.out.2.2.2.1)).trans hPrev.out.2.2.2.1, (hb3.cell (World.block_lt_of_cell? _ _ hPrev.out.2.2.2.2)).trans hPrev.out.2.2.2.2⟩) (fun hHeld => ?_)
  clear hK K hPrev
  try simp only [Act.put, List.setIfInBounds_toArray, List.set_cons_zero, List.set_cons_succ]
  refine wpAnyZ_ready (rs := [9]) (by kernel_rfl) (by simp) ?_
  refine AllReadyZ.cons rfl (by decide) (fun K hK => ?_) AllReadyZ.nil
  rw [if_pos (by rfl)]
  simp only [List.getElem_toArray, List.getElem_cons_zero, List.getElem_cons_succ]
  have hPrev := Lib.hid hHeld
  clear hHeld
  go_simp
  refine (HOP.out _ (HX0.out _ hPrev.out.1).2.2).mono ?_
  rintro e' w4 ⟨hb4, A2, d1, rfl, hS4⟩
  go_simp
  refine hK.out _ _ (⟨hPrev.out.1.trans (hb4.mono hPrev.out.1.size), (hb4.cell (World.block_lt_of_cell? _ _ hPrev.out.2.1)).trans hPrev.out.2.1, (hb4.cell (World.block_lt_of_cell? _ _ hPrev.out.2.2.1)).trans hPrev.out.2.2.1, (hb4.cell (World.block_lt_of_cell? _ _ hPrev.out.2.2.2.1)).trans hPrev.out.2.2.2.1, (hb4.cell (World.block_lt_of_cell? _ _ hPrev.out.2.2.2.2)).trans hPrev.out.2.2.2.2⟩) (fun hHeld => ?_)
  clear hK K hPrev
  try simp only [Act.put, List.setIfInBounds_toArray, List.set_cons_zero, List.set_cons_succ]
  refine wpAnyZ_take (i := 10) (v := ?zv9) _ rfl (by kernel_rfl) (by kernel_rfl) (fun _ _ _ h => h) _ _ _ (by kernel_rfl) (by kernel_rfl) (Or.inl ⟨by rfl, ?zh9⟩) (by assumption) ?zr9
  case zh9 => (intro w hSw; (try dsimp only at hSw); go_simp; try with_reducible rfl)
  try simp only [Act.put, List.setIfInBounds_toArray, List.set_cons_zero, List.set_cons_succ]
  obtain ⟨x1, x2, x3⟩ := HX0.out _ hHeld.1
  have g0 := x2.cells 0 _ rfl
  have g1 := x2.cells 1 _ rfl
  have g2 := x2.cells 2 _ rfl
  have g3 := x2.cells 3 _ rfl
  simp only [List.getElem_toArray, List.getElem_cons_zero, List.getElem_cons_succ] at g0 g1 g2 g3
  have gf := x2.frozen
  have gl := x2.lt
  have hz3 : w.heap.size + 1 + 1 ≤ w3.heap.size := by
    have h1 := (HX0.out w4 hHeld.1)
    have h0 := hb3.size
    simp at h0
    omega
  have n4 := orow_below hS3.out hb4 (Nat.le_refl _)
  have p4 := hS4.out
  have s4 := (((x2.set_ 0 (.int .i64 r.epoch)).set_ 1 (.int .i64 r.k)).set_ 2 (.slice A1 n c1)).set_ 3 (.slice A2 m d1)
  simp only [List.setIfInBounds_toArray, List.set_cons_zero, List.set_cons_succ] at s4
  have n5 := orow_far (orow_far (orow_far (orow_far n4 x2 (by decide) 0 (.int .i64 r.epoch)) (x2.set_ 0 _) (by decide) 1 (.int .i64 r.k)) ((x2.set_ 0 _).set_ 1 _) (by decide) 2 (.slice A1 n c1)) (((x2.set_ 0 _).set_ 1 _).set_ 2 _) (by decide) 3 (.slice A2 m d1)
  have p5 := orow_far (orow_far (orow_far (orow_far p4 x2 (by decide) 0 (.int .i64 r.epoch)) (x2.set_ 0 _) (by decide) 1 (.int .i64 r.k)) ((x2.set_ 0 _).set_ 1 _) (by decide) 2 (.slice A1 n c1)) (((x2.set_ 0 _).set_ 1 _).set_ 2 _) (by decide) 3 (.slice A2 m d1)
  have b5 := (((x3.setCell (p := ⟨w.heap.size + 1, 0, none⟩) (by simp) (.int .i64 r.epoch)).setCell (p := ⟨w.heap.size + 1, 1, none⟩) (by simp) (.int .i64 r.k)).setCell (p := ⟨w.heap.size + 1, 2, none⟩) (by simp) (.slice A1 n c1)).setCell (p := ⟨w.heap.size + 1, 3, none⟩) (by simp) (.slice A2 m d1)
  have hb3s := hb3.size
  have HE := Lib.hid (And.intro s4 (And.intro n5 (And.intro p5 b5)))
  have HZ3 : Hid (w.heap.size ≤ w3.heap.size) := Lib.hid (by omega)
  refine wpAnyZ_last (by kernel_rfl) rfl (by kernel_rfl) ?_
  rw [if_pos (by rfl)]
  simp only [List.getElem_toArray, List.getElem_cons_zero, List.getElem_cons_succ]
  clear hHeld x1 x2 x3 n4 p4 s4 n5 p5 b5 hS3 hS4 hb3 hb4 q0 q1 q2 q3
  go_simp
  go_wp2_with (with_reducible refine end_at ?_)
  obtain ⟨s4, n5, p5, b5⟩ := HE.out
  have hld := rec_load s4
  refine end_ret (v := .agg #[.int .i64 r.epoch, .int .i64 r.k, .slice A1 n c1, .slice A2 m d1]) (by simp [results, Tryd.results11, asAddr, hld]) rfl ⟨A1, A2, c1, d1, rfl, Lib.hid (orow_base n5 (by simp; omega)), Lib.hid (orow_base p5 ?_), b5⟩
  exact HZ3.out
def rdigs : ByteArray := ⟨#[48, 49, 50, 51, 52, 53, 54, 55, 56, 57, 97, 98, 99, 100, 101, 102]⟩
theorem rdigs_at : ∀ a, a < 16 → rdigs.extract a (a + 1) = ⟨#[mhexD a]⟩ := by decide +kernel
theorem rhex_step (l : List UInt8) (c : UInt8) (o : ByteArray) (h : o = ⟨(l.flatMap hexP).toArray⟩) : o ++ rdigs.extract (c.toNat / 16) (c.toNat / 16 + 1) ++ rdigs.extract (c.toNat % 16) (c.toNat % 16 + 1) = ⟨((l ++ [c]).flatMap hexP).toArray⟩ := by
  have h1 := UInt8.toNat_lt c
  rw [rdigs_at _ (by omega), rdigs_at _ (by omega), h]
  apply ByteArray.ext
  rw [ByteArray.data_append, ByteArray.data_append]
  simp [hexP]
theorem rtake_snoc (s : ByteArray) (k : Nat) (h : k < s.size) : s.data.toList.take (k + 1) = s.data.toList.take k ++ [s[k]] := by
  rw [List.take_succ_eq_append_getElem (by simpa using h)]; rfl
set_option maxHeartbeats 400000 in
set_option maxRecDepth 100000 in
theorem rhex_any (s : ByteArray) (w : World) (hs : s.size ≤ 1000) :
    Calls Tryd.prog 35 #[.string s] w fun e w' => e = .returned (.string (hexM s)) ∧ Below w.heap.size w w' := by
  go_enter Tryd.func35, Tryd.ntmps35
  go_wp2
  go_loopw [4, 5] (fun ov iv wr => ∃ (k : Nat) (o : ByteArray), k ≤ s.size ∧ iv = .int .i64 k ∧ ov = .string o ∧ Hid (o = ⟨((s.data.toList.take k).flatMap hexP).toArray⟩) ∧ Hid (o.size = 2 * k) ∧ Below w.heap.size w wr) (fun _ iv _ => s.size - (intOf iv).toNat)
  case atStart => exact ⟨0, _, Nat.zero_le _, rfl, rfl, rfl, rfl, Below.refl _ _⟩
  case round =>
    obtain ⟨k, o, hk, rfl, rfl, HO, HN, hB⟩ := hrel
    by_cases hlt : k < s.size
    · have hc := UInt8.toNat_lt s[k]
      obtain ⟨a, ha⟩ : ∃ a, s[k].toNat / 16 = a := ⟨_, rfl⟩
      obtain ⟨b, hb⟩ : ∃ b, s[k].toNat % 16 = b := ⟨_, rfl⟩
      have HST : Hid (o ++ rdigs.extract a (a + 1) ++ rdigs.extract b (b + 1) = ⟨((s.data.toList.take (k + 1)).flatMap hexP).toArray⟩) := by
        have := rhex_step (s.data.toList.take k) s[k] o HO.out
        rw [ha, hb, ← rtake_snoc s k hlt] at this
        exact Lib.hid this
      have ea : (s[k].toNat : Int) / 16 = (a : Int) := by omega
      have eb : (s[k].toNat : Int) % 16 = (b : Int) := by omega
      have a0 : (0 : Int) ≤ (a : Int) := by omega
      have b0 : (0 : Int) ≤ (b : Int) := by omega
      have a1 : (a : Int) + 1 ≤ 16 := by omega
      have b1 : (b : Int) + 1 ≤ 16 := by omega
      have a2 : IntKind.i64.wrap ((a : Int) + 1) = (a : Int) + 1 := IntWalk.i64_in _ (by omega)
      have b2 : IntKind.i64.wrap ((b : Int) + 1) = (b : Int) + 1 := IntWalk.i64_in _ (by omega)
      have ob : o.size ≤ 2000 := by have := HN.out; omega
      clear ha hb
      go_wp2
      go_region
      all_goals
        go_wp2
        go_roundw
        case rel => exact ⟨k + 1, _, by omega, by go_num, rfl, HST, Lib.hid (by have := HN.out; have e1 := congrArg ByteArray.size (rdigs_at a (by omega)); have e2 := congrArg ByteArray.size (rdigs_at b (by omega)); rw [ByteArray.size_append, ByteArray.size_append]; show o.size + (rdigs.extract a (a + 1)).size + (rdigs.extract b (b + 1)).size = _; rw [e1, e2]; show o.size + 1 + 1 = _; omega), by go_grown⟩
        case measure => simp [intOf]; omega
    · obtain rfl : k = s.size := by omega
      go_wp2
      go_ret
      refine ⟨?_, hB⟩
      rw [HO.out, List.take_of_length_le (by simp)]
      rfl
theorem check_sizesA {r : Rec} (h : checkB r = true) (i : Nat) (x : ByteArray) (hx : r.names[i]? = some x) : x.size ≤ 20 := by
  have h1 := (check_place h hx).1
  unfold nameB at h1
  simp only [Bool.and_eq_true, decide_eq_true_eq] at h1
  exact h1.2.1
theorem check_sizesB {r : Rec} (h : checkB r = true) (i : Nat) (y : ByteArray) (hy : r.pledges[i]? = some y) : y.size = 32 := by
  obtain ⟨⟨_, _, _, _, h5, _, _⟩, _⟩ := (checkB_iff r).1 h
  have hil := (List.getElem?_eq_some_iff.1 hy).1
  obtain ⟨x, hx⟩ : ∃ x, r.names[i]? = some x := ⟨_, List.getElem?_eq_getElem (by omega)⟩
  exact (check_place h hx).2.1 y hy
/-- the first lines of a record, as one text -/
def outB (r : Rec) (i : Nat) : ByteArray := ⟨(catT (linesTo r i)).toArray⟩
theorem outB_zero (r : Rec) : outB r 0 = epochT ++ digB r.epoch.toNat ++ blankT ++ digB r.k.toNat ++ ⟨#[10]⟩ := by
  apply ByteArray.ext
  apply Array.ext'
  simp [outB, linesTo, catT, line0]
theorem outB_succ {r : Rec} {i : Nat} {x y : ByteArray} (hx : r.names[i]? = some x) (hy : r.pledges[i]? = some y) : outB r i ++ x ++ blankT ++ hexM y ++ ⟨#[10]⟩ = outB r (i + 1) := by
  unfold outB
  rw [← linesTo_snoc hx hy, catT_snoc]
  apply ByteArray.ext
  apply Array.ext'
  simp [lineAt]
theorem outB_all {r : Rec} {n : Nat} (h : r.names.length = n) (h2 : r.pledges.length = n) : outB r n = printB r := by
  unfold outB printB
  rw [linesTo_all h h2]
theorem outB_size {r : Rec} (h : checkB r = true) (i : Nat) (hi : i ≤ 16) : (outB r i).size ≤ 2000 := by
  have h1 := catT_le (linesTo r i) (fun s hs => (lines_ok h s ((linesTo_prefix (n := r.names.length) rfl (by obtain ⟨⟨_, _, _, _, h5, _, _⟩, _⟩ := (checkB_iff r).1 h; exact h5) i).subset hs)).2)
  have h2 : (linesTo r i).length ≤ i + 1 := by
    unfold linesTo
    rw [List.length_cons, List.length_take]
    omega
  show (catT (linesTo r i)).toArray.size ≤ _
  rw [List.size_toArray]
  have : 101 * (linesTo r i).length ≤ 101 * (i + 1) := Nat.mul_le_mul_left _ h2
  omega
set_option maxRecDepth 100000 in
set_option maxHeartbeats 8000000 in
theorem rprint_any (r : Rec) (A A' : Option Addr) (n c m d : Nat) (w : World) (hN : SlR encS 1 w w.heap.size A n r.names) (hP : SlR encS 1 w w.heap.size A' m r.pledges) (hsn : ∀ s ∈ r.names, s.size ≤ 140737488351232) (hsp : ∀ s ∈ r.pledges, s.size ≤ 140737488351232) :
    Calls Tryd.prog 13 #[recV r A n c A' m d] w fun e w' => e = .returned (.tuple #[.string (printF r).1, .int .i64 (printF r).2]) ∧ Below w.heap.size w w' := by
  have HC := Lib.hid (fun W (hW : Below w.heap.size w W) => rcheck_any r A A' n c m d W ((hN.below hW).more hW.size) ((hP.below hW).more hW.size) hsn hsp)
  cases hck : checkB r with
  | false =>
    rw [show printF r = (⟨#[]⟩, 180) by rw [printF, if_neg (by rw [hck]; decide)]]
    rw [hck] at HC
    clear hN hP hsn hsp hck
    unfold recV at HC ⊢
    go_enter Tryd.func13, Tryd.ntmps13
    go_wp2_with fail
    refine (HC.out _ (by go_grown)).mono ?_
    rintro e' w1 ⟨rfl, hb1⟩
    have HB1 : Hid (Below w.heap.size w w1) := Lib.hid (Below.trans (by go_grown) (hb1.mono (by simp)))
    clear hb1
    go_wp2_with (with_reducible refine end_at ?_)
    refine end_ret (v := .tuple #[.string ⟨#[]⟩, .int .i64 180]) (by simp [results, Tryd.results13]) rfl ⟨rfl, HB1.out⟩
  | true =>
    rw [show printF r = (printB r, 0) by rw [printF, if_pos hck]]
    rw [hck] at HC
    have hln := hN.1
    have hlp := hP.1
    obtain ⟨⟨h1, h2, h3, h4, h5, h6, h7⟩, _⟩ := (checkB_iff r).1 hck
    obtain rfl : m = n := by omega
    have hn1 : 1 ≤ m := by omega
    obtain ⟨b, off, _, rfl, _, hcn⟩ := mrow_at hN hn1
    obtain ⟨b', off', _, rfl, _, hcp⟩ := mrow_at hP hn1
    have HCN := Lib.hid hcn
    have HCP := Lib.hid hcp
    have hm16 : m ≤ 16 := by omega
    have HD1 := Lib.hid (fun W => rdigits_any 6 r.epoch.toNat W (by omega) (by omega))
    have HD2 := Lib.hid (fun W => rdigits_any 6 r.k.toNat W (by omega) (by omega))
    rw [show ((r.epoch.toNat : Nat) : Int) = r.epoch by omega] at HD1
    rw [show ((r.k.toNat : Nat) : Int) = r.k by omega] at HD2
    have HO0 := Lib.hid (outB_zero r)
    have HOS := Lib.hid (fun i x y (hx : r.names[i]? = some x) (hy : r.pledges[i]? = some y) => outB_succ hx hy)
    have HOE := Lib.hid (outB_all hln hlp)
    have HOZ := Lib.hid (fun i (hi : i ≤ 16) => outB_size hck i hi)
    have HPS := Lib.hid (fun i y (hy : r.pledges[i]? = some y) => (check_sizesB hck i y hy))
    have HNS := Lib.hid (fun i x (hx : r.names[i]? = some x) => (check_sizesA hck i x hx))
    have hd1 := digB_le (n := r.epoch.toNat) (by omega)
    have hd2 := digB_le (n := r.k.toNat) (by omega)
    have HLn := Lib.hid (And.intro hln hlp)
    have HX0 : Hid (∀ W, Below (w.alloc (.cells #[.int .i64 r.epoch, .int .i64 r.k, .slice (some ⟨b, off, none⟩) m c, .slice (some ⟨b', off', none⟩) m d] 24)).heap.size (w.alloc (.cells #[.int .i64 r.epoch, .int .i64 r.k, .slice (some ⟨b, off, none⟩) m c, .slice (some ⟨b', off', none⟩) m d] 24)) W → Blk W w.heap.size 24 #[.int .i64 r.epoch, .int .i64 r.k, .slice (some ⟨b, off, none⟩) m c, .slice (some ⟨b', off', none⟩) m d] ∧ Below w.heap.size w W) := Lib.hid (fun W hW => ⟨(Blk.new w 24 #[.int .i64 r.epoch, .int .i64 r.k, .slice (some ⟨b, off, none⟩) m c, .slice (some ⟨b', off', none⟩) m d]).below hW (by simp), Below.trans (by go_grown) (hW.mono (by simp))⟩)
    clear hN hP hsn hsp hck hcn hcp hln hlp h1 h2 h3 h4 h5 h6 h7
    unfold recV at HC ⊢
    generalize outB r = OB at *
    generalize printB r = PB at *
    obtain ⟨De, hDe⟩ : ∃ x, digB r.epoch.toNat = x := ⟨_, rfl⟩
    obtain ⟨Dk, hDk⟩ : ∃ x, digB r.k.toNat = x := ⟨_, rfl⟩
    rw [hDe] at HD1 HO0 hd1
    rw [hDk] at HD2 HO0 hd2
    unfold epochT blankT at HO0
    unfold blankT at HOS
    clear hDe hDk
    have s1 : ¬ 9223372036854775807 < 6 + De.size := by omega
    have s2 : ¬ 9223372036854775807 < 6 + De.size + 1 := by omega
    have s3 : ¬ 9223372036854775807 < 6 + De.size + 1 + Dk.size := by omega
    have s4 : ¬ 9223372036854775807 < 6 + De.size + 1 + Dk.size + 1 := by omega
    go_enter Tryd.func13, Tryd.ntmps13
    go_wp2_with fail
    refine (HC.out _ (HX0.out _ (Below.refl _ _)).2).mono ?_
    rintro e' w1 ⟨rfl, hb1⟩
    have HB1 : Hid (Below (w.alloc (.cells #[.int .i64 r.epoch, .int .i64 r.k, .slice (some ⟨b, off, none⟩) m c, .slice (some ⟨b', off', none⟩) m d] 24)).heap.size (w.alloc (.cells #[.int .i64 r.epoch, .int .i64 r.k, .slice (some ⟨b, off, none⟩) m c, .slice (some ⟨b', off', none⟩) m d] 24)) w1) := Lib.hid hb1
    have x1 := (HX0.out _ hb1).1
    have q0 := x1.cells 0 _ rfl
    have q1 := x1.cells 1 _ rfl
    simp only [List.getElem_toArray, List.getElem_cons_zero, List.getElem_cons_succ] at q0 q1
    clear hb1 x1 HC
    go_wp2_with fail
    refine wp_region_held_drew (S := fun W => Below (w.alloc (.cells #[.int .i64 r.epoch, .int .i64 r.k, .slice (some ⟨b, off, none⟩) m c, .slice (some ⟨b', off', none⟩) m d] 24)).heap.size (w.alloc (.cells #[.int .i64 r.epoch, .int .i64 r.k, .slice (some ⟨b, off, none⟩) m c, .slice (some ⟨b', off', none⟩) m d] 24)) W ∧ W.cell? ⟨w.heap.size, 0, none⟩ = some (.int .i64 r.epoch) ∧ W.cell? ⟨w.heap.size, 1, none⟩ = some (.int .i64 r.k)) (by kernel_rfl) (⟨HB1.out.drew, q0, q1⟩) (fun hHeld => ?_)
    refine wpAnyH_take (i := 0) (v := ?vr1) rfl (by kernel_rfl) (by kernel_rfl) (by kernel_rfl) (fun _ _ _ h => h) (Or.inl ⟨by rfl, ?hyr1⟩) hHeld ?restr1
    case hyr1 => (intro w hSw; (try dsimp only at hSw); go_simp; try with_reducible rfl)
    try simp only [Act.put, List.getElem_toArray, List.getElem_cons_succ, List.getElem_cons_zero, List.setIfInBounds_toArray, List.set_cons_zero, List.set_cons_succ]
    refine wpAnyH_take (i := 1) (v := ?vr2) rfl (by kernel_rfl) (by kernel_rfl) (by kernel_rfl) (fun _ _ _ h => h) (Or.inl ⟨by rfl, ?hyr2⟩) hHeld ?restr2
    case hyr2 => (intro w hSw; (try dsimp only at hSw); go_simp; try with_reducible rfl)
    try simp only [Act.put, List.getElem_toArray, List.getElem_cons_succ, List.getElem_cons_zero, List.setIfInBounds_toArray, List.set_cons_zero, List.set_cons_succ]
    refine wpAnyH_take (i := 5) (v := ?vr3) rfl (by kernel_rfl) (by kernel_rfl) (by kernel_rfl) (fun _ _ _ h => h) (Or.inl ⟨by rfl, ?hyr3⟩) hHeld ?restr3
    case hyr3 => (intro w hSw; (try dsimp only at hSw); go_simp; try with_reducible rfl)
    try simp only [Act.put, List.getElem_toArray, List.getElem_cons_succ, List.getElem_cons_zero, List.setIfInBounds_toArray, List.set_cons_zero, List.set_cons_succ]
    refine wpAnyH_take (i := 6) (v := ?vr4) rfl (by kernel_rfl) (by kernel_rfl) (by kernel_rfl) (fun _ _ _ h => h) (Or.inl ⟨by rfl, ?hyr4⟩) hHeld ?restr4
    case hyr4 => (intro w hSw; (try dsimp only at hSw); go_simp; try with_reducible rfl)
    try simp only [Act.put, List.getElem_toArray, List.getElem_cons_succ, List.getElem_cons_zero, List.setIfInBounds_toArray, List.set_cons_zero, List.set_cons_succ]
    refine wpAnyH_ready (rs := [2]) (by kernel_rfl) (by simp) ?_
    refine AllReadyH.cons rfl (fun K hK => ?_) AllReadyH.nil
    have hPrev := Lib.hid hHeld
    clear hHeld
    go_simp
    refine (HD1.out _).mono ?_
    rintro e' w2 ⟨rfl, hb2⟩
    go_simp
    refine hK.out _ _ (⟨hPrev.out.1.trans (hb2.mono hPrev.out.1.size), (hb2.cell (World.block_lt_of_cell? _ _ hPrev.out.2.1)).trans hPrev.out.2.1, (hb2.cell (World.block_lt_of_cell? _ _ hPrev.out.2.2)).trans hPrev.out.2.2⟩) (fun hHeld => ?_)
    clear hK K hPrev
    try simp only [Act.put, List.getElem_toArray, List.getElem_cons_succ, List.getElem_cons_zero, List.setIfInBounds_toArray, List.set_cons_zero, List.set_cons_succ]
    refine wpAnyH_take (i := 3) (v := ?vr6) rfl (by kernel_rfl) (by kernel_rfl) (by kernel_rfl) (fun _ _ _ h => h) (Or.inl ⟨by rfl, ?hyr6⟩) hHeld ?restr6
    case hyr6 => (intro w hSw; (try dsimp only at hSw); go_simp; try with_reducible rfl)
    try simp only [Act.put, List.getElem_toArray, List.getElem_cons_succ, List.getElem_cons_zero, List.setIfInBounds_toArray, List.set_cons_zero, List.set_cons_succ]
    refine wpAnyH_take (i := 4) (v := ?vr7) rfl (by kernel_rfl) (by kernel_rfl) (by kernel_rfl) (fun _ _ _ h => h) (Or.inl ⟨by rfl, ?hyr7⟩) hHeld ?restr7
    case hyr7 => (intro w hSw; (try dsimp only at hSw); go_simp; try with_reducible rfl)
    try simp only [Act.put, List.getElem_toArray, List.getElem_cons_succ, List.getElem_cons_zero, List.setIfInBounds_toArray, List.set_cons_zero, List.set_cons_succ]
    refine wpAnyH_ready (rs := [7]) (by kernel_rfl) (by simp) ?_
    refine AllReadyH.cons rfl (fun K hK => ?_) AllReadyH.nil
    have hPrev := Lib.hid hHeld
    clear hHeld
    go_simp
    refine (HD2.out _).mono ?_
    rintro e' w3 ⟨rfl, hb3⟩
    go_simp
    refine hK.out _ _ (⟨hPrev.out.1.trans (hb3.mono hPrev.out.1.size), (hb3.cell (World.block_lt_of_cell? _ _ hPrev.out.2.1)).trans hPrev.out.2.1, (hb3.cell (World.block_lt_of_cell? _ _ hPrev.out.2.2)).trans hPrev.out.2.2⟩) (fun hHeld => ?_)
    clear hK K hPrev
    try simp only [Act.put, List.getElem_toArray, List.getElem_cons_succ, List.getElem_cons_zero, List.setIfInBounds_toArray, List.set_cons_zero, List.set_cons_succ]
    refine wpAnyH_take (i := 8) (v := ?vr9) rfl (by kernel_rfl) (by kernel_rfl) (by kernel_rfl) (fun _ _ _ h => h) (Or.inl ⟨by rfl, ?hyr9⟩) hHeld ?restr9
    case hyr9 => (intro w hSw; (try dsimp only at hSw); go_simp; try with_reducible rfl)
    try simp only [Act.put, List.getElem_toArray, List.getElem_cons_succ, List.getElem_cons_zero, List.setIfInBounds_toArray, List.set_cons_zero, List.set_cons_succ]
    refine wpAnyH_take (i := 9) (v := ?vr10) rfl (by kernel_rfl) (by kernel_rfl) (by kernel_rfl) (fun _ _ _ h => h) (Or.inl ⟨by rfl, ?hyr10⟩) hHeld ?restr10
    case hyr10 => (intro w hSw; (try dsimp only at hSw); go_simp; try with_reducible rfl)
    try simp only [Act.put, List.getElem_toArray, List.getElem_cons_succ, List.getElem_cons_zero, List.setIfInBounds_toArray, List.set_cons_zero, List.set_cons_succ]
    refine wpAnyH_take (i := 10) (v := ?vr11) rfl (by kernel_rfl) (by kernel_rfl) (by kernel_rfl) (fun _ _ _ h => h) (Or.inl ⟨by rfl, ?hyr11⟩) hHeld ?restr11
    case hyr11 => (intro w hSw; (try dsimp only at hSw); go_simp; try with_reducible rfl)
    try simp only [Act.put, List.getElem_toArray, List.getElem_cons_succ, List.getElem_cons_zero, List.setIfInBounds_toArray, List.set_cons_zero, List.set_cons_succ]
    refine wpAnyH_done (by kernel_rfl) ?_ _
    have HB3 := Lib.hid (show Below (w.alloc (.cells #[.int .i64 r.epoch, .int .i64 r.k, .slice (some ⟨b, off, none⟩) m c, .slice (some ⟨b', off', none⟩) m d] 24)).heap.size (w.alloc (.cells #[.int .i64 r.epoch, .int .i64 r.k, .slice (some ⟨b, off, none⟩) m c, .slice (some ⟨b', off', none⟩) m d] 24)) w3 from hHeld.1)
    have HE0 : Hid (⟨#[101, 112, 111, 99, 104, 32]⟩ ++ De ++ ⟨#[32]⟩ ++ Dk ++ ⟨#[10]⟩ = OB 0) := Lib.hid HO0.out.symm
    clear hHeld q0 q1
    go_wp2_with fail
    go_loopw [4, 5] (fun ov iv wr => ∃ i : Nat, i ≤ m ∧ iv = .int .i64 i ∧ ov = .string (OB i) ∧ Hid (Below (w.alloc (.cells #[.int .i64 r.epoch, .int .i64 r.k, .slice (some ⟨b, off, none⟩) m c, .slice (some ⟨b', off', none⟩) m d] 24)).heap.size (w.alloc (.cells #[.int .i64 r.epoch, .int .i64 r.k, .slice (some ⟨b, off, none⟩) m c, .slice (some ⟨b', off', none⟩) m d] 24)) wr)) (fun _ iv _ => m - (intOf iv).toNat)
    case atStart => exact ⟨0, by omega, rfl, by rw [← HE0.out], HB3⟩
    case round =>
      obtain ⟨i, hi, rfl, rfl, HW⟩ := hrel
      obtain ⟨x1, hBr⟩ := HX0.out _ HW.out
      have q2 := x1.cells 2 _ rfl
      have q3 := x1.cells 3 _ rfl
      simp only [List.getElem_toArray, List.getElem_cons_zero, List.getElem_cons_succ] at q2 q3
      by_cases hlt : i < m
      · obtain ⟨x, hx⟩ : ∃ x, r.names[i]? = some x := ⟨_, List.getElem?_eq_getElem (by rw [HLn.out.1]; exact hlt)⟩
        obtain ⟨y, hy⟩ : ∃ y, r.pledges[i]? = some y := ⟨_, List.getElem?_eq_getElem (by rw [HLn.out.2]; exact hlt)⟩
        have cx := HCN.out wr hBr i x hx
        have cy := HCP.out wr hBr i y hy
        have i0 : (0 : Int) ≤ (i : Int) := by omega
        have i1 : (i : Int) < (m : Int) := by omega
        have hxs := HNS.out i x hx
        have hys := HPS.out i y hy
        have hoz := HOZ.out i (by omega)
        have hhz : (hexM y).size ≤ 64 := by rw [hexM_size]; omega
        have HHX := Lib.hid (fun W => rhex_any y W (by omega))
        have HOI := Lib.hid (HOS.out i x y hx hy)
        clear hx hy x1
        obtain ⟨hy2, hhy⟩ : ∃ z, hexM y = z := ⟨_, rfl⟩
        rw [hhy] at HHX HOI hhz
        clear hhy
        obtain ⟨O, hO⟩ : ∃ O, OB i = O := ⟨_, rfl⟩
        rw [hO] at HOI hoz ⊢
        clear hO
        have s1 : ¬ 9223372036854775807 < O.size + x.size := by omega
        have s2 : ¬ 9223372036854775807 < O.size + x.size + 1 := by omega
        have s3 : ¬ 9223372036854775807 < O.size + x.size + 1 + hy2.size := by omega
        have s4 : ¬ 9223372036854775807 < O.size + x.size + 1 + hy2.size + 1 := by omega
        go_wp2_with fail
        refine wp_region_held_drew (S := fun W => Below wr.heap.size wr W ∧ W.cell? ⟨w.heap.size, 2, none⟩ = some (.slice (some ⟨b, off, none⟩) m c) ∧ W.cell? ⟨w.heap.size, 3, none⟩ = some (.slice (some ⟨b', off', none⟩) m d) ∧ W.cell? ⟨b, off + i, none⟩ = some (.string x) ∧ W.cell? ⟨b', off' + i, none⟩ = some (.string y)) (by kernel_rfl) (⟨Still.below (Still.drew wr), q2, q3, cx, cy⟩) (fun hHeld => ?_)
        refine wpAnyH_take (i := 0) (v := ?vs12) rfl (by kernel_rfl) (by kernel_rfl) (by kernel_rfl) (fun _ _ _ h => h) (Or.inl ⟨by rfl, ?hys12⟩) hHeld ?rests12
        case hys12 => (intro w hSw; (try dsimp only at hSw); go_simp; try with_reducible rfl)
        try simp only [Act.put, List.getElem_toArray, List.getElem_cons_succ, List.getElem_cons_zero, List.setIfInBounds_toArray, List.set_cons_zero, List.set_cons_succ]
        refine wpAnyH_take (i := 1) (v := ?vs13) rfl (by kernel_rfl) (by kernel_rfl) (by kernel_rfl) (fun _ _ _ h => h) (Or.inl ⟨by rfl, ?hys13⟩) hHeld ?rests13
        case hys13 => (intro w hSw; (try dsimp only at hSw); go_simp; try with_reducible rfl)
        try simp only [Act.put, List.getElem_toArray, List.getElem_cons_succ, List.getElem_cons_zero, List.setIfInBounds_toArray, List.set_cons_zero, List.set_cons_succ]
        refine wpAnyH_take (i := 2) (v := ?vs14) rfl (by kernel_rfl) (by kernel_rfl) (by kernel_rfl) (fun _ _ _ h => h) (Or.inl ⟨by rfl, ?hys14⟩) hHeld ?rests14
        case hys14 => (intro w hSw; (try dsimp only at hSw); go_simp; try with_reducible rfl)
        try simp only [Act.put, List.getElem_toArray, List.getElem_cons_succ, List.getElem_cons_zero, List.setIfInBounds_toArray, List.set_cons_zero, List.set_cons_succ]
        refine wpAnyH_take (i := 3) (v := ?vs15) rfl (by kernel_rfl) (by kernel_rfl) (by kernel_rfl) (fun _ _ _ h => h) (Or.inl ⟨by rfl, ?hys15⟩) hHeld ?rests15
        case hys15 => (intro w hSw; (try dsimp only at hSw); go_simp; try with_reducible rfl)
        try simp only [Act.put, List.getElem_toArray, List.getElem_cons_succ, List.getElem_cons_zero, List.setIfInBounds_toArray, List.set_cons_zero, List.set_cons_succ]
        refine wpAnyH_take (i := 4) (v := ?vs16) rfl (by kernel_rfl) (by kernel_rfl) (by kernel_rfl) (fun _ _ _ h => h) (Or.inl ⟨by rfl, ?hys16⟩) hHeld ?rests16
        case hys16 => (intro w hSw; (try dsimp only at hSw); go_simp; try with_reducible rfl)
        try simp only [Act.put, List.getElem_toArray, List.getElem_cons_succ, List.getElem_cons_zero, List.setIfInBounds_toArray, List.set_cons_zero, List.set_cons_succ]
        refine wpAnyH_take (i := 5) (v := ?vs17) rfl (by kernel_rfl) (by kernel_rfl) (by kernel_rfl) (fun _ _ _ h => h) (Or.inl ⟨by rfl, ?hys17⟩) hHeld ?rests17
        case hys17 => (intro w hSw; (try dsimp only at hSw); go_simp; try with_reducible rfl)
        try simp only [Act.put, List.getElem_toArray, List.getElem_cons_succ, List.getElem_cons_zero, List.setIfInBounds_toArray, List.set_cons_zero, List.set_cons_succ]
        refine wpAnyH_take (i := 6) (v := ?vs18) rfl (by kernel_rfl) (by kernel_rfl) (by kernel_rfl) (fun _ _ _ h => h) (Or.inl ⟨by rfl, ?hys18⟩) hHeld ?rests18
        case hys18 => (intro w hSw; (try dsimp only at hSw); go_simp; try with_reducible rfl)
        try simp only [Act.put, List.getElem_toArray, List.getElem_cons_succ, List.getElem_cons_zero, List.setIfInBounds_toArray, List.set_cons_zero, List.set_cons_succ]
        refine wpAnyH_take (i := 7) (v := ?vs19) rfl (by kernel_rfl) (by kernel_rfl) (by kernel_rfl) (fun _ _ _ h => h) (Or.inl ⟨by rfl, ?hys19⟩) hHeld ?rests19
        case hys19 => (intro w hSw; (try dsimp only at hSw); go_simp; try with_reducible rfl)
        try simp only [Act.put, List.getElem_toArray, List.getElem_cons_succ, List.getElem_cons_zero, List.setIfInBounds_toArray, List.set_cons_zero, List.set_cons_succ]
        refine wpAnyH_take (i := 8) (v := ?vs20) rfl (by kernel_rfl) (by kernel_rfl) (by kernel_rfl) (fun _ _ _ h => h) (Or.inl ⟨by rfl, ?hys20⟩) hHeld ?rests20
        case hys20 => (intro w hSw; (try dsimp only at hSw); go_simp; try with_reducible rfl)
        try simp only [Act.put, List.getElem_toArray, List.getElem_cons_succ, List.getElem_cons_zero, List.setIfInBounds_toArray, List.set_cons_zero, List.set_cons_succ]
        refine wpAnyH_take (i := 9) (v := ?vs21) rfl (by kernel_rfl) (by kernel_rfl) (by kernel_rfl) (fun _ _ _ h => h) (Or.inl ⟨by rfl, ?hys21⟩) hHeld ?rests21
        case hys21 => (intro w hSw; (try dsimp only at hSw); go_simp; try with_reducible rfl)
        try simp only [Act.put, List.getElem_toArray, List.getElem_cons_succ, List.getElem_cons_zero, List.setIfInBounds_toArray, List.set_cons_zero, List.set_cons_succ]
        refine wpAnyH_take (i := 10) (v := ?vs22) rfl (by kernel_rfl) (by kernel_rfl) (by kernel_rfl) (fun _ _ _ h => h) (Or.inl ⟨by rfl, ?hys22⟩) hHeld ?rests22
        case hys22 => (intro w hSw; (try dsimp only at hSw); go_simp; try with_reducible rfl)
        try simp only [Act.put, List.getElem_toArray, List.getElem_cons_succ, List.getElem_cons_zero, List.setIfInBounds_toArray, List.set_cons_zero, List.set_cons_succ]
        refine wpAnyH_take (i := 11) (v := ?vs23) rfl (by kernel_rfl) (by kernel_rfl) (by kernel_rfl) (fun _ _ _ h => h) (Or.inl ⟨by rfl, ?hys23⟩) hHeld ?rests23
        case hys23 => (intro w hSw; (try dsimp only at hSw); go_simp; try with_reducible rfl)
        try simp only [Act.put, List.getElem_toArray, List.getElem_cons_succ, List.getElem_cons_zero, List.setIfInBounds_toArray, List.set_cons_zero, List.set_cons_succ]
        refine wpAnyH_take (i := 12) (v := ?vs24) rfl (by kernel_rfl) (by kernel_rfl) (by kernel_rfl) (fun _ _ _ h => h) (Or.inl ⟨by rfl, ?hys24⟩) hHeld ?rests24
        case hys24 => (intro w hSw; (try dsimp only at hSw); go_simp; try with_reducible rfl)
        try simp only [Act.put, List.getElem_toArray, List.getElem_cons_succ, List.getElem_cons_zero, List.setIfInBounds_toArray, List.set_cons_zero, List.set_cons_succ]
        refine wpAnyH_ready (rs := [13]) (by kernel_rfl) (by simp) ?_
        refine AllReadyH.cons rfl (fun K hK => ?_) AllReadyH.nil
        have hPrev := Lib.hid hHeld
        clear hHeld
        go_simp
        refine (HHX.out _).mono ?_
        rintro e' w5 ⟨rfl, hb5⟩
        go_simp
        refine hK.out _ _ (⟨hPrev.out.1.trans (hb5.mono hPrev.out.1.size), (hb5.cell (World.block_lt_of_cell? _ _ hPrev.out.2.1)).trans hPrev.out.2.1, (hb5.cell (World.block_lt_of_cell? _ _ hPrev.out.2.2.1)).trans hPrev.out.2.2.1, (hb5.cell (World.block_lt_of_cell? _ _ hPrev.out.2.2.2.1)).trans hPrev.out.2.2.2.1, (hb5.cell (World.block_lt_of_cell? _ _ hPrev.out.2.2.2.2)).trans hPrev.out.2.2.2.2⟩) (fun hHeld => ?_)
        clear hK K hPrev
        try simp only [Act.put, List.getElem_toArray, List.getElem_cons_succ, List.getElem_cons_zero, List.setIfInBounds_toArray, List.set_cons_zero, List.set_cons_succ]
        refine wpAnyH_take (i := 14) (v := ?vs26) rfl (by kernel_rfl) (by kernel_rfl) (by kernel_rfl) (fun _ _ _ h => h) (Or.inl ⟨by rfl, ?hys26⟩) hHeld ?rests26
        case hys26 => (intro w hSw; (try dsimp only at hSw); go_simp; try with_reducible rfl)
        try simp only [Act.put, List.getElem_toArray, List.getElem_cons_succ, List.getElem_cons_zero, List.setIfInBounds_toArray, List.set_cons_zero, List.set_cons_succ]
        refine wpAnyH_take (i := 15) (v := ?vs27) rfl (by kernel_rfl) (by kernel_rfl) (by kernel_rfl) (fun _ _ _ h => h) (Or.inl ⟨by rfl, ?hys27⟩) hHeld ?rests27
        case hys27 => (intro w hSw; (try dsimp only at hSw); go_simp; try with_reducible rfl)
        try simp only [Act.put, List.getElem_toArray, List.getElem_cons_succ, List.getElem_cons_zero, List.setIfInBounds_toArray, List.set_cons_zero, List.set_cons_succ]
        refine wpAnyH_take (i := 16) (v := ?vs28) rfl (by kernel_rfl) (by kernel_rfl) (by kernel_rfl) (fun _ _ _ h => h) (Or.inl ⟨by rfl, ?hys28⟩) hHeld ?rests28
        case hys28 => (intro w hSw; (try dsimp only at hSw); go_simp; try with_reducible rfl)
        try simp only [Act.put, List.getElem_toArray, List.getElem_cons_succ, List.getElem_cons_zero, List.setIfInBounds_toArray, List.set_cons_zero, List.set_cons_succ]
        refine wpAnyH_done (by kernel_rfl) ?_ _
        have HW7 : Hid (Below (w.alloc (.cells #[.int .i64 r.epoch, .int .i64 r.k, .slice (some ⟨b, off, none⟩) m c, .slice (some ⟨b', off', none⟩) m d] 24)).heap.size (w.alloc (.cells #[.int .i64 r.epoch, .int .i64 r.k, .slice (some ⟨b, off, none⟩) m c, .slice (some ⟨b', off', none⟩) m d] 24)) w5) := Lib.hid (HW.out.trans (hHeld.1.mono HW.out.size))
        clear hHeld
        go_wp2_with fail
        go_roundw
        case rel => exact ⟨i + 1, by omega, by go_num, by rw [← HOI.out], HW7⟩
        case measure => simp [intOf]; omega
      · obtain rfl : i = m := by omega
        have HBe := Lib.hid hBr
        clear x1
        go_wp2_with (with_reducible refine end_at ?_)
        refine end_ret (v := .tuple #[.string (OB i), .int .i64 0]) (by simp [results, Tryd.results13]) rfl ⟨by rw [HOE.out], HBe.out⟩
end Go.Proofs.YtbgohcedakpnbaaDoor
