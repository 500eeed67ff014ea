/- vault.open. -/
import Derived.Test.YtpkomloblhbkiaaGreatDoorVauB
import Derived.Test.YtpkomloblhbkiaaGreatDoorNonG
import Derived.BigRegion
set_option linter.unusedVariables false
set_option linter.unusedSimpArgs false
namespace Go.Proofs.YtpkomloblhbkiaaGreatDoor
open Go.RowKit
def chestW (n a g : Int) (A : Option Addr) (k c : Nat) (root : ByteArray) : Value := .agg #[.int .i64 n, .int .i64 a, .int .i64 g, .slice A k c, .string root]
theorem chest_load {W : World} {q k c : Nat} {n a g : Int} {A : Option Addr} {r : ByteArray} (h : Blk W q 71 #[.int .i64 n, .int .i64 a, .int .i64 g, .slice A k c, .string r]) : (loadVar 71 ⟨q, 0, none⟩).run Tryz.prog W = .ok (chestW n a g A k c r) W :=
  run_loadVar_row (P := Tryz.prog) W q 71 71 #[.int .i64 n, .int .i64 a, .int .i64 g, .slice A k c, .string r] (0, 0) _ h Tryz.underlying71 rfl (by kernel_rfl)
def ChestOut (w' : World) (B : Nat) (v : Value) (c : Chest) : Prop := ∃ A d, v = chestW c.n c.area c.gen A c.vol.blocks.length d c.vol.root ∧ Hid (SRow w' B (.slice A c.vol.blocks.length d) c.vol.blocks)
theorem ChestOut.none_ (w' : World) (B : Nat) : ChestOut w' B (chestW 0 0 0 none 0 0 ⟨#[]⟩) noChest := ⟨none, 0, rfl, Lib.hid (srow_nil _ _)⟩
/-- what the loop over the blocks holds -/
def OpenAt (w : World) (A : Option Addr) (n c : Nat) (A' : Option Addr) (m d : Nat) (N a g : Int) (root : ByteArray) (L : List ByteArray) (j : Nat) (Aj : Option Addr) (cj : Nat) (W : World) : Prop :=
  Blk W w.heap.size 42 #[.slice A n c, .slice A' m d] ∧ Blk W (w.heap.size + 1) 71 #[.int .i64 0, .int .i64 0, .int .i64 0, .slice none 0 0, .string ⟨#[]⟩] ∧ Blk W (w.heap.size + 1 + 1) 71 #[.int .i64 N, .int .i64 a, .int .i64 g, .slice Aj j cj, .string root] ∧ Below w.heap.size w W ∧ SRow W (w.heap.size + 1 + 1 + 1) (.slice Aj j cj) (L.take j)
section
variable {w W W' : World} {A A' Aj : Option Addr} {n c m d j cj : Nat} {N a g : Int} {root : ByteArray} {L : List ByteArray}
theorem OpenAt.below (h : OpenAt w A n c A' m d N a g root L j Aj cj W) (hb : Below W.heap.size W W') : OpenAt w A n c A' m d N a g root L j Aj cj W' :=
  ⟨h.1.below hb h.1.lt, h.2.1.below hb h.2.1.lt, h.2.2.1.below hb h.2.2.1.lt, h.2.2.2.1.trans (hb.mono h.2.2.2.1.size), orow_below h.2.2.2.2 hb (Nat.le_refl _)⟩
theorem OpenAt.step {A2 : Option Addr} {c2 : Nat} (h : OpenAt w A n c A' m d N a g root L j Aj cj W) (hb : Below (w.heap.size + 1 + 1 + 1) W W') (hs : SRow W' (w.heap.size + 1 + 1 + 1) (.slice A2 (j + 1) c2) (L.take (j + 1))) :
    OpenAt w A n c A' m d N a g root L (j + 1) A2 c2 (W'.setCell ⟨w.heap.size + 1 + 1, 3, none⟩ (.slice A2 (j + 1) c2)) := by
  have h3 := (h.2.2.1.below hb (by omega)).set_ 3 (.slice A2 (j + 1) c2)
  simp only [List.setIfInBounds_toArray, List.set_cons_zero, List.set_cons_succ] at h3
  exact ⟨(h.1.below hb (by omega)).far (by show w.heap.size ≠ w.heap.size + 1 + 1; omega) _, (h.2.1.below hb (by omega)).far (by show w.heap.size + 1 ≠ w.heap.size + 1 + 1; omega) _, h3,
    (h.2.2.2.1.trans (hb.mono (by omega))).setCell (p := ⟨w.heap.size + 1 + 1, 3, none⟩) (by show w.heap.size ≤ w.heap.size + 1 + 1; omega) _, orow_low hs (by omega) _ _⟩
end
set_option maxRecDepth 100000 in
set_option maxHeartbeats 2000000 in
theorem open_any' (p : Plat) (A A' : Option Addr) (n m c d : Nat) (w : World) (hP : PlatAt w w.heap.size A n A' m p) (hn : n ≤ 1000000) (hE : Env w) :
    Calls Tryz.prog 25 #[.agg #[.slice A n c, .slice A' m d]] w fun e w' => ∃ v, e = .returned (.tuple #[v, .int .i64 (openP p).2]) ∧ ChestOut w' w.heap.size v (openP p).1 ∧ Below w.heap.size w w' := by
  have HP := hP.pre
  have hl : p.sectors.length = n := hP.1.1
  have HSI := Lib.hid (fun W => vsize_any n W hn)
  have HGE := Lib.hid (fun W (hW : Below w.heap.size w W) => get_any p 0 A A' n m c d W (HP.step hW))
  have hgs := get_absent (p := p) (i := 0)
  have hgz := get_size p 0
  have HB0 : Hid (Below w.heap.size w (((w.alloc (.cells #[.slice A n c, .slice A' m d] 42)).alloc (.cells #[.int .i64 0, .int .i64 0, .int .i64 0, .slice none 0 0, .string ⟨#[]⟩] 71)).alloc (.cells #[.int .i64 0, .int .i64 0, .int .i64 0, .slice none 0 0, .string ⟨#[]⟩] 71))) := Lib.hid (by go_grown)
  have HX0 : Hid (Blk (((w.alloc (.cells #[.slice A n c, .slice A' m d] 42)).alloc (.cells #[.int .i64 0, .int .i64 0, .int .i64 0, .slice none 0 0, .string ⟨#[]⟩] 71)).alloc (.cells #[.int .i64 0, .int .i64 0, .int .i64 0, .slice none 0 0, .string ⟨#[]⟩] 71)) w.heap.size 42 #[.slice A n c, .slice A' m d] ∧ Blk (((w.alloc (.cells #[.slice A n c, .slice A' m d] 42)).alloc (.cells #[.int .i64 0, .int .i64 0, .int .i64 0, .slice none 0 0, .string ⟨#[]⟩] 71)).alloc (.cells #[.int .i64 0, .int .i64 0, .int .i64 0, .slice none 0 0, .string ⟨#[]⟩] 71)) (w.heap.size + 1) 71 #[.int .i64 0, .int .i64 0, .int .i64 0, .slice none 0 0, .string ⟨#[]⟩] ∧ Blk (((w.alloc (.cells #[.slice A n c, .slice A' m d] 42)).alloc (.cells #[.int .i64 0, .int .i64 0, .int .i64 0, .slice none 0 0, .string ⟨#[]⟩] 71)).alloc (.cells #[.int .i64 0, .int .i64 0, .int .i64 0, .slice none 0 0, .string ⟨#[]⟩] 71)) (w.heap.size + 1 + 1) 71 #[.int .i64 0, .int .i64 0, .int .i64 0, .slice none 0 0, .string ⟨#[]⟩]) :=
    Lib.hid ⟨((Blk.new w _ _).alloc _).alloc _, (Blk.new_at (by simp) _ _).alloc _, Blk.new_at (by simp) _ _⟩
  have HE := Lib.hid hE
  obtain ⟨⟨N, ok⟩, hN⟩ : ∃ V, vsizeF n = V := ⟨_, rfl⟩
  have hF : openP p = (if ok = false then (noChest, 160)
    else if (getF p 0).2.2 ≠ 0 then (noChest, (getF p 0).2.2)
    else match headV (getF p 0).1 with
    | none => (noChest, 160)
    | some (g, a, root) =>
      if volB ⟨blocksOf p N a, root⟩ = false then (noChest, 160)
      else if rootedB ⟨blocksOf p N a, root⟩ = false then (noChest, 161)
      else (⟨N, a, g, ⟨blocksOf p N a, root⟩⟩, 0)) := by
    unfold openP
    rw [hl, hN]
    rfl
  rw [hF]
  have HN6 : Hid (ok = true → ∃ j, j ≤ 6 ∧ N = 2 ^ j ∧ n = 3 + 2 * 2 ^ j) := Lib.hid (fun h => by have := vsizeF_ok (k := n) (by rw [hN]; exact h); rw [hN] at this; exact this)
  rw [hN] at HSI
  clear hF hP hN hE
  cases ok
  · rw [if_pos rfl]
    clear hgs hgz HGE HE hl HN6
    dsimp only at *
    go_enter Tryz.func25, Tryz.ntmps25
    go_wp2_with fail
    refine (HSI.out _).mono ?_
    rintro e w1 ⟨rfl, rfl⟩
    generalize (((w.alloc (.cells #[.slice A n c, .slice A' m d] 42)).alloc (.cells #[.int .i64 0, .int .i64 0, .int .i64 0, .slice none 0 0, .string ⟨#[]⟩] 71)).alloc (.cells #[.int .i64 0, .int .i64 0, .int .i64 0, .slice none 0 0, .string ⟨#[]⟩] 71)) = w0 at *
    have hx := HX0.out.2.1
    have hB := HB0.out
    clear HX0 HB0
    have z0 := hx.cells 0 _ rfl
    have z1 := hx.cells 1 _ rfl
    have z2 := hx.cells 2 _ rfl
    have z3 := hx.cells 3 _ rfl
    have z4 := hx.cells 4 _ rfl
    simp only [List.getElem_toArray, List.getElem_cons_zero, List.getElem_cons_succ] at z0 z1 z2 z3 z4
    have zf := hx.frozen
    have zl := hx.lt
    have y9 := ((((hx.set_ 0 (.int .i64 0)).set_ 1 (.int .i64 0)).set_ 2 (.int .i64 0)).set_ 3 (.slice none 0 0)).set_ 4 (.string ⟨#[]⟩)
    simp only [List.setIfInBounds_toArray, List.set_cons_zero, List.set_cons_succ] at y9
    have b9 : Below w.heap.size w (((((w0.setCell ⟨w.heap.size + 1, 0, none⟩ (.int .i64 0)).setCell ⟨w.heap.size + 1, 1, none⟩ (.int .i64 0)).setCell ⟨w.heap.size + 1, 2, none⟩ (.int .i64 0)).setCell ⟨w.heap.size + 1, 3, none⟩ (.slice none 0 0)).setCell ⟨w.heap.size + 1, 4, none⟩ (.string ⟨#[]⟩)) := ((((hB.setCell (p := ⟨w.heap.size + 1, 0, none⟩) (Nat.le_succ _) _).setCell (p := ⟨w.heap.size + 1, 1, none⟩) (Nat.le_succ _) _).setCell (p := ⟨w.heap.size + 1, 2, none⟩) (Nat.le_succ _) _).setCell (p := ⟨w.heap.size + 1, 3, none⟩) (Nat.le_succ _) _).setCell (p := ⟨w.heap.size + 1, 4, none⟩) (Nat.le_succ _) _
    have H9 := Lib.hid (And.intro y9 b9)
    clear hx hB y9 b9
    go_wp2_with (with_reducible refine end_at ?_)
    obtain ⟨y9, b9⟩ := H9.out
    have hld := chest_load y9
    generalize (((((w0.setCell ⟨w.heap.size + 1, 0, none⟩ (.int .i64 0)).setCell ⟨w.heap.size + 1, 1, none⟩ (.int .i64 0)).setCell ⟨w.heap.size + 1, 2, none⟩ (.int .i64 0)).setCell ⟨w.heap.size + 1, 3, none⟩ (.slice none 0 0)).setCell ⟨w.heap.size + 1, 4, none⟩ (.string ⟨#[]⟩)) = W9 at *
    refine end_ret (v := .tuple #[chestW 0 0 0 none 0 0 ⟨#[]⟩, .int .i64 160]) (by simp [results, Tryz.results25, asAddr, hld]) rfl ⟨_, rfl, ChestOut.none_ _ _, b9⟩
  · rw [if_neg (by decide)]
    obtain ⟨jj, hj6, hN2, hn2⟩ := HN6.out rfl
    have hN64 : N ≤ 64 := by
      rw [hN2]
      exact Nat.le_trans (Nat.pow_le_pow_right (by omega) hj6) (by decide)
    have hNn : 3 + 2 * N = n := by omega
    have hN1 : 1 ≤ N := by rw [hN2]; exact Nat.one_le_two_pow
    clear HN6 hj6 hN2 hn2
    have hck : (getF p 0).2.2 = 0 → checkP p = true := fun h => (read_pos (get_read h)).1
    obtain ⟨⟨s, there, ge⟩, hG⟩ : ∃ V, getF p 0 = V := ⟨_, rfl⟩
    rw [hG] at HGE hgs hgz hck ⊢
    clear hG
    dsimp only at *
    unfold OutG at HGE
    dsimp only at HGE
    by_cases hge : ge = 0
    · subst hge
      rw [if_neg (by decide)]
      replace hck := hck rfl
      replace hgs := hgs rfl
      have HRH := Lib.hid (fun W => readHead_any s W (by omega))
      cases hh : headV s with
      | none =>
        rw [hh] at HRH
        unfold headO at HRH
        clear hgs hgz hck hh HE hl hN64 hNn hN1
        dsimp only at *
        cases there
        · go_enter Tryz.func25, Tryz.ntmps25
          go_wp2_with fail
          refine (HSI.out _).mono ?_
          rintro e w1 ⟨rfl, rfl⟩
          generalize (((w.alloc (.cells #[.slice A n c, .slice A' m d] 42)).alloc (.cells #[.int .i64 0, .int .i64 0, .int .i64 0, .slice none 0 0, .string ⟨#[]⟩] 71)).alloc (.cells #[.int .i64 0, .int .i64 0, .int .i64 0, .slice none 0 0, .string ⟨#[]⟩] 71)) = w0 at *
          have t0 := (HX0.out.2.2).cells 0 _ rfl
          have tf := (HX0.out.2.2).frozen
          have tl := (HX0.out.2.2).lt
          have p0 := (HX0.out.1).cells 0 _ rfl
          have p1 := (HX0.out.1).cells 1 _ rfl
          simp only [List.getElem_toArray, List.getElem_cons_zero, List.getElem_cons_succ] at t0 p0 p1
          have hx1 : Blk (w0.setCell ⟨w.heap.size + 1 + 1, 0, none⟩ (.int .i64 N)) (w.heap.size + 1) 71 #[.int .i64 0, .int .i64 0, .int .i64 0, .slice none 0 0, .string ⟨#[]⟩] := (HX0.out.2.1).far (by show w.heap.size + 1 ≠ w.heap.size + 1 + 1; omega) _
          have hp1 : Blk (w0.setCell ⟨w.heap.size + 1 + 1, 0, none⟩ (.int .i64 N)) w.heap.size 42 #[.slice A n c, .slice A' m d] := (HX0.out.1).far (by show w.heap.size ≠ w.heap.size + 1 + 1; omega) _
          have ht1 := (HX0.out.2.2).set_ 0 (.int .i64 N)
          simp only [List.setIfInBounds_toArray, List.set_cons_zero, List.set_cons_succ] at ht1
          have hB1 : Below w.heap.size w (w0.setCell ⟨w.heap.size + 1 + 1, 0, none⟩ (.int .i64 N)) := HB0.out.setCell (p := ⟨w.heap.size + 1 + 1, 0, none⟩) (by show w.heap.size ≤ w.heap.size + 1 + 1; omega) _
          have H1 := Lib.hid (And.intro hp1 (And.intro hx1 (And.intro ht1 hB1)))
          clear hx1 hp1 ht1 hB1 HB0 HX0
          go_wp2_with fail
          generalize w0.setCell ⟨w.heap.size + 1 + 1, 0, none⟩ (.int .i64 N) = w1 at *
          refine (HGE.out _ H1.out.2.2.2).mono ?_
          rintro e w2 ⟨rfl, hb2⟩
          dsimp only
          have H2 : Hid (Blk w2 w.heap.size 42 #[.slice A n c, .slice A' m d] ∧ Blk w2 (w.heap.size + 1) 71 #[.int .i64 0, .int .i64 0, .int .i64 0, .slice none 0 0, .string ⟨#[]⟩] ∧ Blk w2 (w.heap.size + 1 + 1) 71 #[.int .i64 N, .int .i64 0, .int .i64 0, .slice none 0 0, .string ⟨#[]⟩] ∧ Below w.heap.size w w2) :=
            Lib.hid ⟨H1.out.1.below hb2 H1.out.1.lt, H1.out.2.1.below hb2 H1.out.2.1.lt, H1.out.2.2.1.below hb2 H1.out.2.2.1.lt, H1.out.2.2.2.trans (hb2.mono H1.out.2.2.2.size)⟩
          clear hb2 H1 t0 tf tl p0 p1 HGE
          go_wp2_with fail
          refine (HRH.out _).mono ?_
          rintro e w3 ⟨rfl, hb3⟩
          have hp3 := H2.out.1.below hb3 H2.out.1.lt
          have hx3 := H2.out.2.1.below hb3 H2.out.2.1.lt
          have ht3 := H2.out.2.2.1.below hb3 H2.out.2.2.1.lt
          have hB3 := H2.out.2.2.2.trans (hb3.mono H2.out.2.2.2.size)
          have t1 := ht3.cells 1 _ rfl
          have t2 := ht3.cells 2 _ rfl
          have t4 := ht3.cells 4 _ rfl
          have tf := ht3.frozen
          have tl := ht3.lt
          simp only [List.getElem_toArray, List.getElem_cons_zero, List.getElem_cons_succ] at t1 t2 t4
          have ht4 := ((ht3.set_ 2 (.int .i64 0)).set_ 1 (.int .i64 0)).set_ 4 (.string ⟨#[]⟩)
          simp only [List.setIfInBounds_toArray, List.set_cons_zero, List.set_cons_succ] at ht4
          have hp4 := ((hp3.far (p := ⟨w.heap.size + 1 + 1, 2, none⟩) (by show w.heap.size ≠ w.heap.size + 1 + 1; omega) (.int .i64 0)).far (p := ⟨w.heap.size + 1 + 1, 1, none⟩) (by show w.heap.size ≠ w.heap.size + 1 + 1; omega) (.int .i64 0)).far (p := ⟨w.heap.size + 1 + 1, 4, none⟩) (by show w.heap.size ≠ w.heap.size + 1 + 1; omega) (.string ⟨#[]⟩)
          have hx4 := ((hx3.far (p := ⟨w.heap.size + 1 + 1, 2, none⟩) (by show w.heap.size + 1 ≠ w.heap.size + 1 + 1; omega) (.int .i64 0)).far (p := ⟨w.heap.size + 1 + 1, 1, none⟩) (by show w.heap.size + 1 ≠ w.heap.size + 1 + 1; omega) (.int .i64 0)).far (p := ⟨w.heap.size + 1 + 1, 4, none⟩) (by show w.heap.size + 1 ≠ w.heap.size + 1 + 1; omega) (.string ⟨#[]⟩)
          have hB4 := ((hB3.setCell (p := ⟨w.heap.size + 1 + 1, 2, none⟩) (by show w.heap.size ≤ w.heap.size + 1 + 1; omega) (.int .i64 0)).setCell (p := ⟨w.heap.size + 1 + 1, 1, none⟩) (by show w.heap.size ≤ w.heap.size + 1 + 1; omega) (.int .i64 0)).setCell (p := ⟨w.heap.size + 1 + 1, 4, none⟩) (by show w.heap.size ≤ w.heap.size + 1 + 1; omega) (.string ⟨#[]⟩)
          have H4 := Lib.hid (And.intro hp4 (And.intro hx4 (And.intro ht4 hB4)))
          clear hp3 hx3 ht3 hB3 hp4 hx4 ht4 hB4 hb3 H2
          go_upto_region 10 with fail
          generalize ((w3.setCell ⟨w.heap.size + 1 + 1, 2, none⟩ (.int .i64 0)).setCell ⟨w.heap.size + 1 + 1, 1, none⟩ (.int .i64 0)).setCell ⟨w.heap.size + 1 + 1, 4, none⟩ (.string ⟨#[]⟩) = w4 at *
          have hx := H4.out.2.1
          have hB := H4.out.2.2.2
          clear H4 t1 t2 t4 tf tl
          have z0 := hx.cells 0 _ rfl
          have z1 := hx.cells 1 _ rfl
          have z2 := hx.cells 2 _ rfl
          have z3 := hx.cells 3 _ rfl
          have z4 := hx.cells 4 _ rfl
          simp only [List.getElem_toArray, List.getElem_cons_zero, List.getElem_cons_succ] at z0 z1 z2 z3 z4
          have zf := hx.frozen
          have zl := hx.lt
          have y9 := ((((hx.set_ 0 (.int .i64 0)).set_ 1 (.int .i64 0)).set_ 2 (.int .i64 0)).set_ 3 (.slice none 0 0)).set_ 4 (.string ⟨#[]⟩)
          simp only [List.setIfInBounds_toArray, List.set_cons_zero, List.set_cons_succ] at y9
          have b9 : Below w.heap.size w (((((w4.setCell ⟨w.heap.size + 1, 0, none⟩ (.int .i64 0)).setCell ⟨w.heap.size + 1, 1, none⟩ (.int .i64 0)).setCell ⟨w.heap.size + 1, 2, none⟩ (.int .i64 0)).setCell ⟨w.heap.size + 1, 3, none⟩ (.slice none 0 0)).setCell ⟨w.heap.size + 1, 4, none⟩ (.string ⟨#[]⟩)) := ((((hB.setCell (p := ⟨w.heap.size + 1, 0, none⟩) (Nat.le_succ _) _).setCell (p := ⟨w.heap.size + 1, 1, none⟩) (Nat.le_succ _) _).setCell (p := ⟨w.heap.size + 1, 2, none⟩) (Nat.le_succ _) _).setCell (p := ⟨w.heap.size + 1, 3, none⟩) (Nat.le_succ _) _).setCell (p := ⟨w.heap.size + 1, 4, none⟩) (Nat.le_succ _) _
          have H9 := Lib.hid (And.intro y9 b9)
          clear hx hB y9 b9
          go_wp2_with (with_reducible refine end_at ?_)
          obtain ⟨y9, b9⟩ := H9.out
          have hld := chest_load y9
          generalize (((((w4.setCell ⟨w.heap.size + 1, 0, none⟩ (.int .i64 0)).setCell ⟨w.heap.size + 1, 1, none⟩ (.int .i64 0)).setCell ⟨w.heap.size + 1, 2, none⟩ (.int .i64 0)).setCell ⟨w.heap.size + 1, 3, none⟩ (.slice none 0 0)).setCell ⟨w.heap.size + 1, 4, none⟩ (.string ⟨#[]⟩)) = W9 at *
          refine end_ret (v := .tuple #[chestW 0 0 0 none 0 0 ⟨#[]⟩, .int .i64 160]) (by simp [results, Tryz.results25, asAddr, hld]) rfl ⟨_, rfl, ChestOut.none_ _ _, b9⟩
        · go_enter Tryz.func25, Tryz.ntmps25
          go_wp2_with fail
          refine (HSI.out _).mono ?_
          rintro e w1 ⟨rfl, rfl⟩
          generalize (((w.alloc (.cells #[.slice A n c, .slice A' m d] 42)).alloc (.cells #[.int .i64 0, .int .i64 0, .int .i64 0, .slice none 0 0, .string ⟨#[]⟩] 71)).alloc (.cells #[.int .i64 0, .int .i64 0, .int .i64 0, .slice none 0 0, .string ⟨#[]⟩] 71)) = w0 at *
          have t0 := (HX0.out.2.2).cells 0 _ rfl
          have tf := (HX0.out.2.2).frozen
          have tl := (HX0.out.2.2).lt
          have p0 := (HX0.out.1).cells 0 _ rfl
          have p1 := (HX0.out.1).cells 1 _ rfl
          simp only [List.getElem_toArray, List.getElem_cons_zero, List.getElem_cons_succ] at t0 p0 p1
          have hx1 : Blk (w0.setCell ⟨w.heap.size + 1 + 1, 0, none⟩ (.int .i64 N)) (w.heap.size + 1) 71 #[.int .i64 0, .int .i64 0, .int .i64 0, .slice none 0 0, .string ⟨#[]⟩] := (HX0.out.2.1).far (by show w.heap.size + 1 ≠ w.heap.size + 1 + 1; omega) _
          have hp1 : Blk (w0.setCell ⟨w.heap.size + 1 + 1, 0, none⟩ (.int .i64 N)) w.heap.size 42 #[.slice A n c, .slice A' m d] := (HX0.out.1).far (by show w.heap.size ≠ w.heap.size + 1 + 1; omega) _
          have ht1 := (HX0.out.2.2).set_ 0 (.int .i64 N)
          simp only [List.setIfInBounds_toArray, List.set_cons_zero, List.set_cons_succ] at ht1
          have hB1 : Below w.heap.size w (w0.setCell ⟨w.heap.size + 1 + 1, 0, none⟩ (.int .i64 N)) := HB0.out.setCell (p := ⟨w.heap.size + 1 + 1, 0, none⟩) (by show w.heap.size ≤ w.heap.size + 1 + 1; omega) _
          have H1 := Lib.hid (And.intro hp1 (And.intro hx1 (And.intro ht1 hB1)))
          clear hx1 hp1 ht1 hB1 HB0 HX0
          go_wp2_with fail
          generalize w0.setCell ⟨w.heap.size + 1 + 1, 0, none⟩ (.int .i64 N) = w1 at *
          refine (HGE.out _ H1.out.2.2.2).mono ?_
          rintro e w2 ⟨rfl, hb2⟩
          dsimp only
          have H2 : Hid (Blk w2 w.heap.size 42 #[.slice A n c, .slice A' m d] ∧ Blk w2 (w.heap.size + 1) 71 #[.int .i64 0, .int .i64 0, .int .i64 0, .slice none 0 0, .string ⟨#[]⟩] ∧ Blk w2 (w.heap.size + 1 + 1) 71 #[.int .i64 N, .int .i64 0, .int .i64 0, .slice none 0 0, .string ⟨#[]⟩] ∧ Below w.heap.size w w2) :=
            Lib.hid ⟨H1.out.1.below hb2 H1.out.1.lt, H1.out.2.1.below hb2 H1.out.2.1.lt, H1.out.2.2.1.below hb2 H1.out.2.2.1.lt, H1.out.2.2.2.trans (hb2.mono H1.out.2.2.2.size)⟩
          clear hb2 H1 t0 tf tl p0 p1 HGE
          go_wp2_with fail
          refine (HRH.out _).mono ?_
          rintro e w3 ⟨rfl, hb3⟩
          have hp3 := H2.out.1.below hb3 H2.out.1.lt
          have hx3 := H2.out.2.1.below hb3 H2.out.2.1.lt
          have ht3 := H2.out.2.2.1.below hb3 H2.out.2.2.1.lt
          have hB3 := H2.out.2.2.2.trans (hb3.mono H2.out.2.2.2.size)
          have t1 := ht3.cells 1 _ rfl
          have t2 := ht3.cells 2 _ rfl
          have t4 := ht3.cells 4 _ rfl
          have tf := ht3.frozen
          have tl := ht3.lt
          simp only [List.getElem_toArray, List.getElem_cons_zero, List.getElem_cons_succ] at t1 t2 t4
          have ht4 := ((ht3.set_ 2 (.int .i64 0)).set_ 1 (.int .i64 0)).set_ 4 (.string ⟨#[]⟩)
          simp only [List.setIfInBounds_toArray, List.set_cons_zero, List.set_cons_succ] at ht4
          have hp4 := ((hp3.far (p := ⟨w.heap.size + 1 + 1, 2, none⟩) (by show w.heap.size ≠ w.heap.size + 1 + 1; omega) (.int .i64 0)).far (p := ⟨w.heap.size + 1 + 1, 1, none⟩) (by show w.heap.size ≠ w.heap.size + 1 + 1; omega) (.int .i64 0)).far (p := ⟨w.heap.size + 1 + 1, 4, none⟩) (by show w.heap.size ≠ w.heap.size + 1 + 1; omega) (.string ⟨#[]⟩)
          have hx4 := ((hx3.far (p := ⟨w.heap.size + 1 + 1, 2, none⟩) (by show w.heap.size + 1 ≠ w.heap.size + 1 + 1; omega) (.int .i64 0)).far (p := ⟨w.heap.size + 1 + 1, 1, none⟩) (by show w.heap.size + 1 ≠ w.heap.size + 1 + 1; omega) (.int .i64 0)).far (p := ⟨w.heap.size + 1 + 1, 4, none⟩) (by show w.heap.size + 1 ≠ w.heap.size + 1 + 1; omega) (.string ⟨#[]⟩)
          have hB4 := ((hB3.setCell (p := ⟨w.heap.size + 1 + 1, 2, none⟩) (by show w.heap.size ≤ w.heap.size + 1 + 1; omega) (.int .i64 0)).setCell (p := ⟨w.heap.size + 1 + 1, 1, none⟩) (by show w.heap.size ≤ w.heap.size + 1 + 1; omega) (.int .i64 0)).setCell (p := ⟨w.heap.size + 1 + 1, 4, none⟩) (by show w.heap.size ≤ w.heap.size + 1 + 1; omega) (.string ⟨#[]⟩)
          have H4 := Lib.hid (And.intro hp4 (And.intro hx4 (And.intro ht4 hB4)))
          clear hp3 hx3 ht3 hB3 hp4 hx4 ht4 hB4 hb3 H2
          go_upto_region 10 with fail
          generalize ((w3.setCell ⟨w.heap.size + 1 + 1, 2, none⟩ (.int .i64 0)).setCell ⟨w.heap.size + 1 + 1, 1, none⟩ (.int .i64 0)).setCell ⟨w.heap.size + 1 + 1, 4, none⟩ (.string ⟨#[]⟩) = w4 at *
          have hx := H4.out.2.1
          have hB := H4.out.2.2.2
          clear H4 t1 t2 t4 tf tl
          have z0 := hx.cells 0 _ rfl
          have z1 := hx.cells 1 _ rfl
          have z2 := hx.cells 2 _ rfl
          have z3 := hx.cells 3 _ rfl
          have z4 := hx.cells 4 _ rfl
          simp only [List.getElem_toArray, List.getElem_cons_zero, List.getElem_cons_succ] at z0 z1 z2 z3 z4
          have zf := hx.frozen
          have zl := hx.lt
          have y9 := ((((hx.set_ 0 (.int .i64 0)).set_ 1 (.int .i64 0)).set_ 2 (.int .i64 0)).set_ 3 (.slice none 0 0)).set_ 4 (.string ⟨#[]⟩)
          simp only [List.setIfInBounds_toArray, List.set_cons_zero, List.set_cons_succ] at y9
          have b9 : Below w.heap.size w (((((w4.setCell ⟨w.heap.size + 1, 0, none⟩ (.int .i64 0)).setCell ⟨w.heap.size + 1, 1, none⟩ (.int .i64 0)).setCell ⟨w.heap.size + 1, 2, none⟩ (.int .i64 0)).setCell ⟨w.heap.size + 1, 3, none⟩ (.slice none 0 0)).setCell ⟨w.heap.size + 1, 4, none⟩ (.string ⟨#[]⟩)) := ((((hB.setCell (p := ⟨w.heap.size + 1, 0, none⟩) (Nat.le_succ _) _).setCell (p := ⟨w.heap.size + 1, 1, none⟩) (Nat.le_succ _) _).setCell (p := ⟨w.heap.size + 1, 2, none⟩) (Nat.le_succ _) _).setCell (p := ⟨w.heap.size + 1, 3, none⟩) (Nat.le_succ _) _).setCell (p := ⟨w.heap.size + 1, 4, none⟩) (Nat.le_succ _) _
          have H9 := Lib.hid (And.intro y9 b9)
          clear hx hB y9 b9
          go_wp2_with (with_reducible refine end_at ?_)
          obtain ⟨y9, b9⟩ := H9.out
          have hld := chest_load y9
          generalize (((((w4.setCell ⟨w.heap.size + 1, 0, none⟩ (.int .i64 0)).setCell ⟨w.heap.size + 1, 1, none⟩ (.int .i64 0)).setCell ⟨w.heap.size + 1, 2, none⟩ (.int .i64 0)).setCell ⟨w.heap.size + 1, 3, none⟩ (.slice none 0 0)).setCell ⟨w.heap.size + 1, 4, none⟩ (.string ⟨#[]⟩)) = W9 at *
          refine end_ret (v := .tuple #[chestW 0 0 0 none 0 0 ⟨#[]⟩, .int .i64 160]) (by simp [results, Tryz.results25, asAddr, hld]) rfl ⟨_, rfl, ChestOut.none_ _ _, b9⟩
      | some V =>
        obtain ⟨g, a, root⟩ := V
        have hthere : there = true := by
          cases there with
          | true => rfl
          | false =>
            have := hgs rfl
            subst this
            cases hh
        subst hthere
        have hga : a ≤ 1 ∧ root.size = 32 ∧ g ≤ 1000000000 := by
          unfold headV at hh
          split at hh
          · rename_i h37
            split at hh
            · rename_i h1
              injection hh with hh
              injection hh with e1 hh
              injection hh with e2 e3
              subst e1 e2 e3
              exact ⟨h1.2, by rw [ByteArray.size_extract]; omega, h1.1⟩
            · cases hh
          · cases hh
        rw [hh] at HRH
        unfold headO at HRH
        dsimp only at HRH ⊢
        have hR0 : ∀ i, i < N → (readF p (sectorN N a i : Nat)).2 = 0 ∧ (readF p (sectorN N a i : Nat)).1.size ≤ 128 := fun i hi => by
          refine ⟨?_, read_size _ _⟩
          rw [readF_ok hck, if_pos]
          rw [hasB_iff]
          have hq : a = 0 ∨ a = 1 := by omega
          unfold sectorN
          rcases hq with rfl | rfl <;> omega
        obtain ⟨L, hL⟩ : ∃ L, blocksOf p N a = L := ⟨_, rfl⟩
        have hLl : L.length = N := by rw [← hL]; exact blocksOf_len p N a
        have hLi : ∀ i, i < N → ∃ x, L[i]? = some x ∧ readF p (sectorN N a i : Nat) = (x, 0) ∧ x.size ≤ 128 := fun i hi => by
          refine ⟨(readF p (sectorN N a i : Nat)).1, ?_, Prod.ext rfl (hR0 i hi).1, (hR0 i hi).2⟩
          rw [← hL]
          unfold blocksOf
          rw [List.getElem?_map, List.getElem?_range hi]
          rfl
        have hLs : ∀ x ∈ L, x.size ≤ 128 := fun x hx => by
          obtain ⟨i, hi⟩ := List.getElem?_of_mem hx
          obtain ⟨y, hy, _, hz⟩ := hLi i (by have := (List.getElem?_eq_some_iff.1 hi).1; omega)
          rw [hi] at hy
          injection hy with hy
          subst hy
          exact hz
        rw [hL]
        have HLI := Lib.hid hLi
        have HLS := Lib.hid hLs
        have HLL := Lib.hid hLl
        have HRD := Lib.hid (fun i W (hW : Below w.heap.size w W) => read_any p i A A' n m c d W (HP.step hW))
        have HSC := Lib.hid (fun i (hi : i ≤ 64) W => sector_any N a i a W hN64 hga.1 hi)
        obtain ⟨ha1, hr32, hg9⟩ := hga
        clear hck hgs hgz hh hR0 hL hLi hLs hLl hl
        try dsimp only at *
        obtain ⟨R, hR⟩ : ∃ R, (if volB ⟨L, root⟩ = false then (noChest, 160) else if rootedB ⟨L, root⟩ = false then (noChest, 161) else (⟨N, a, g, ⟨L, root⟩⟩, 0) : Chest × Int) = R := ⟨_, rfl⟩
        rw [hR]
        have HRR := Lib.hid hR
        clear hR
        go_enter Tryz.func25, Tryz.ntmps25
        go_wp2_with fail
        refine (HSI.out _).mono ?_
        rintro e w1 ⟨rfl, rfl⟩
        generalize (((w.alloc (.cells #[.slice A n c, .slice A' m d] 42)).alloc (.cells #[.int .i64 0, .int .i64 0, .int .i64 0, .slice none 0 0, .string ⟨#[]⟩] 71)).alloc (.cells #[.int .i64 0, .int .i64 0, .int .i64 0, .slice none 0 0, .string ⟨#[]⟩] 71)) = w0 at *
        have t0 := (HX0.out.2.2).cells 0 _ rfl
        have tf := (HX0.out.2.2).frozen
        have tl := (HX0.out.2.2).lt
        have p0 := (HX0.out.1).cells 0 _ rfl
        have p1 := (HX0.out.1).cells 1 _ rfl
        simp only [List.getElem_toArray, List.getElem_cons_zero, List.getElem_cons_succ] at t0 p0 p1
        have hx1 : Blk (w0.setCell ⟨w.heap.size + 1 + 1, 0, none⟩ (.int .i64 N)) (w.heap.size + 1) 71 #[.int .i64 0, .int .i64 0, .int .i64 0, .slice none 0 0, .string ⟨#[]⟩] := (HX0.out.2.1).far (by show w.heap.size + 1 ≠ w.heap.size + 1 + 1; omega) _
        have hp1 : Blk (w0.setCell ⟨w.heap.size + 1 + 1, 0, none⟩ (.int .i64 N)) w.heap.size 42 #[.slice A n c, .slice A' m d] := (HX0.out.1).far (by show w.heap.size ≠ w.heap.size + 1 + 1; omega) _
        have ht1 := (HX0.out.2.2).set_ 0 (.int .i64 N)
        simp only [List.setIfInBounds_toArray, List.set_cons_zero, List.set_cons_succ] at ht1
        have hB1 : Below w.heap.size w (w0.setCell ⟨w.heap.size + 1 + 1, 0, none⟩ (.int .i64 N)) := HB0.out.setCell (p := ⟨w.heap.size + 1 + 1, 0, none⟩) (by show w.heap.size ≤ w.heap.size + 1 + 1; omega) _
        have H1 := Lib.hid (And.intro hp1 (And.intro hx1 (And.intro ht1 hB1)))
        clear hx1 hp1 ht1 hB1 HB0 HX0
        go_wp2_with fail
        generalize w0.setCell ⟨w.heap.size + 1 + 1, 0, none⟩ (.int .i64 N) = w1 at *
        refine (HGE.out _ H1.out.2.2.2).mono ?_
        rintro e w2 ⟨rfl, hb2⟩
        dsimp only
        have H2 : Hid (Blk w2 w.heap.size 42 #[.slice A n c, .slice A' m d] ∧ Blk w2 (w.heap.size + 1) 71 #[.int .i64 0, .int .i64 0, .int .i64 0, .slice none 0 0, .string ⟨#[]⟩] ∧ Blk w2 (w.heap.size + 1 + 1) 71 #[.int .i64 N, .int .i64 0, .int .i64 0, .slice none 0 0, .string ⟨#[]⟩] ∧ Below w.heap.size w w2) :=
          Lib.hid ⟨H1.out.1.below hb2 H1.out.1.lt, H1.out.2.1.below hb2 H1.out.2.1.lt, H1.out.2.2.1.below hb2 H1.out.2.2.1.lt, H1.out.2.2.2.trans (hb2.mono H1.out.2.2.2.size)⟩
        clear hb2 H1 t0 tf tl p0 p1 HGE
        go_wp2_with fail
        refine (HRH.out _).mono ?_
        rintro e w3 ⟨rfl, hb3⟩
        have hp3 := H2.out.1.below hb3 H2.out.1.lt
        have hx3 := H2.out.2.1.below hb3 H2.out.2.1.lt
        have ht3 := H2.out.2.2.1.below hb3 H2.out.2.2.1.lt
        have hB3 := H2.out.2.2.2.trans (hb3.mono H2.out.2.2.2.size)
        have t1 := ht3.cells 1 _ rfl
        have t2 := ht3.cells 2 _ rfl
        have t4 := ht3.cells 4 _ rfl
        have tf := ht3.frozen
        have tl := ht3.lt
        simp only [List.getElem_toArray, List.getElem_cons_zero, List.getElem_cons_succ] at t1 t2 t4
        have ht4 := ((ht3.set_ 2 (.int .i64 (g : Nat))).set_ 1 (.int .i64 (a : Nat))).set_ 4 (.string root)
        simp only [List.setIfInBounds_toArray, List.set_cons_zero, List.set_cons_succ] at ht4
        have hp4 := ((hp3.far (p := ⟨w.heap.size + 1 + 1, 2, none⟩) (by show w.heap.size ≠ w.heap.size + 1 + 1; omega) (.int .i64 (g : Nat))).far (p := ⟨w.heap.size + 1 + 1, 1, none⟩) (by show w.heap.size ≠ w.heap.size + 1 + 1; omega) (.int .i64 (a : Nat))).far (p := ⟨w.heap.size + 1 + 1, 4, none⟩) (by show w.heap.size ≠ w.heap.size + 1 + 1; omega) (.string root)
        have hx4 := ((hx3.far (p := ⟨w.heap.size + 1 + 1, 2, none⟩) (by show w.heap.size + 1 ≠ w.heap.size + 1 + 1; omega) (.int .i64 (g : Nat))).far (p := ⟨w.heap.size + 1 + 1, 1, none⟩) (by show w.heap.size + 1 ≠ w.heap.size + 1 + 1; omega) (.int .i64 (a : Nat))).far (p := ⟨w.heap.size + 1 + 1, 4, none⟩) (by show w.heap.size + 1 ≠ w.heap.size + 1 + 1; omega) (.string root)
        have hB4 := ((hB3.setCell (p := ⟨w.heap.size + 1 + 1, 2, none⟩) (by show w.heap.size ≤ w.heap.size + 1 + 1; omega) (.int .i64 (g : Nat))).setCell (p := ⟨w.heap.size + 1 + 1, 1, none⟩) (by show w.heap.size ≤ w.heap.size + 1 + 1; omega) (.int .i64 (a : Nat))).setCell (p := ⟨w.heap.size + 1 + 1, 4, none⟩) (by show w.heap.size ≤ w.heap.size + 1 + 1; omega) (.string root)
        have H4 := Lib.hid (And.intro hp4 (And.intro hx4 (And.intro ht4 hB4)))
        clear hp3 hx3 ht3 hB3 hp4 hx4 ht4 hB4 hb3 H2
        go_upto_region 12 with fail
        generalize ((w3.setCell ⟨w.heap.size + 1 + 1, 2, none⟩ (.int .i64 (g : Nat))).setCell ⟨w.heap.size + 1 + 1, 1, none⟩ (.int .i64 (a : Nat))).setCell ⟨w.heap.size + 1 + 1, 4, none⟩ (.string root) = w4 at *
        have ho4 : OpenAt w A n c A' m d N a g root L 0 none 0 w4 := ⟨H4.out.1, H4.out.2.1, H4.out.2.2.1, H4.out.2.2.2, srow_nil _ _⟩
        have HO4 := Lib.hid ho4
        have t0 := H4.out.2.2.1.cells 0 _ rfl
        simp only [List.getElem_toArray, List.getElem_cons_zero, List.getElem_cons_succ] at t0
        clear ho4 H4 t1 t2 t4 tf tl
        go_wp2_with fail
        go_loopw [58] (fun iv wr => ∃ (j cj : Nat) (Aj : Option Addr), j ≤ N ∧ iv = .int .i64 j ∧ Hid (OpenAt w A n c A' m d N a g root L j Aj cj wr)) (fun iv _ => N - (intOf iv).toNat)
        case atStart => exact ⟨0, 0, none, by omega, rfl, HO4⟩
        case round =>
          clear HO4 t0
          obtain ⟨j, cj, Aj, hj, rfl, HO⟩ := hrel
          by_cases hlt : j < N
          · obtain ⟨x, hx, hrx, hxz⟩ := HLI.out j hlt
            have HRDx : Hid (∀ W, Below w.heap.size w W → Calls Tryz.prog 59 #[.agg #[.slice A n c, .slice A' m d], .int .i64 ((3 + a * N + j : Nat) : Int)] W fun e w' => e = .returned (.tuple #[.string x, .int .i64 0]) ∧ Below W.heap.size W w') := Lib.hid (fun W hW => by
              have h := HRD.out ((3 + a * N + j : Nat) : Int) W hW
              have h2 : readF p ((3 + a * N + j : Nat) : Int) = (x, 0) := hrx
              rw [h2] at h
              exact h)
            have HBr := Lib.hid HO.out.2.2.2.1
            have q0 := HO.out.1.cells 0 _ rfl
            have q1 := HO.out.1.cells 1 _ rfl
            have t0 := HO.out.2.2.1.cells 0 _ rfl
            have t1 := HO.out.2.2.1.cells 1 _ rfl
            have t3 := HO.out.2.2.1.cells 3 _ rfl
            simp only [List.getElem_toArray, List.getElem_cons_zero, List.getElem_cons_succ] at q0 q1 t0 t1 t3
            have i0 : (0 : Int) ≤ (j : Int) := by omega
            have i1 : (j : Int) < (N : Int) := by omega
            have HXX := Lib.hid hx
            clear hx hrx
            go_wp2_with fail
            refine wp_region_held_drew (S := fun W => Below wr.heap.size wr W ∧ W.cell? ⟨w.heap.size, 0, none⟩ = some (.slice A n c) ∧ W.cell? ⟨w.heap.size, 1, none⟩ = some (.slice A' m d) ∧ W.cell? ⟨w.heap.size + 1 + 1, 0, none⟩ = some (.int .i64 N) ∧ W.cell? ⟨w.heap.size + 1 + 1, 1, none⟩ = some (.int .i64 a)) (by kernel_rfl) (⟨(Below.refl _ _).drew, q0, q1, t0, t1⟩) (fun hHeld => ?_)
            refine wpAnyH_take (i := 0) (v := ?v1) rfl (by kernel_rfl) (by kernel_rfl) (by kernel_rfl) (fun _ _ _ h => h) (Or.inl ⟨by rfl, ?hy1⟩) hHeld ?rest1
            case hy1 => (intro w hSw; (try dsimp only at hSw); go_simp; try with_reducible rfl)
            try simp only [Act.put, List.getElem_toArray, List.getElem_cons_succ, List.getElem_cons_zero, List.setIfInBounds_toArray, List.set_cons_zero, List.set_cons_succ]
            refine wpAnyH_take (i := 1) (v := ?v2) rfl (by kernel_rfl) (by kernel_rfl) (by kernel_rfl) (fun _ _ _ h => h) (Or.inl ⟨by rfl, ?hy2⟩) hHeld ?rest2
            case hy2 => (intro w hSw; (try dsimp only at hSw); go_simp; try with_reducible rfl)
            try simp only [Act.put, List.getElem_toArray, List.getElem_cons_succ, List.getElem_cons_zero, List.setIfInBounds_toArray, List.set_cons_zero, List.set_cons_succ]
            refine wpAnyH_take (i := 2) (v := ?v3) rfl (by kernel_rfl) (by kernel_rfl) (by kernel_rfl) (fun _ _ _ h => h) (Or.inl ⟨by rfl, ?hy3⟩) hHeld ?rest3
            case hy3 => (intro w hSw; (try dsimp only at hSw); go_simp; try with_reducible rfl)
            try simp only [Act.put, List.getElem_toArray, List.getElem_cons_succ, List.getElem_cons_zero, List.setIfInBounds_toArray, List.set_cons_zero, List.set_cons_succ]
            refine wpAnyH_take (i := 3) (v := ?v4) rfl (by kernel_rfl) (by kernel_rfl) (by kernel_rfl) (fun _ _ _ h => h) (Or.inl ⟨by rfl, ?hy4⟩) hHeld ?rest4
            case hy4 => (intro w hSw; (try dsimp only at hSw); go_simp; try with_reducible rfl)
            try simp only [Act.put, List.getElem_toArray, List.getElem_cons_succ, List.getElem_cons_zero, List.setIfInBounds_toArray, List.set_cons_zero, List.set_cons_succ]
            refine wpAnyH_take (i := 4) (v := ?v5) rfl (by kernel_rfl) (by kernel_rfl) (by kernel_rfl) (fun _ _ _ h => h) (Or.inl ⟨by rfl, ?hy5⟩) hHeld ?rest5
            case hy5 => (intro w hSw; (try dsimp only at hSw); go_simp; try with_reducible rfl)
            try simp only [Act.put, List.getElem_toArray, List.getElem_cons_succ, List.getElem_cons_zero, List.setIfInBounds_toArray, List.set_cons_zero, List.set_cons_succ]
            refine wpAnyH_take (i := 5) (v := ?v6) rfl (by kernel_rfl) (by kernel_rfl) (by kernel_rfl) (fun _ _ _ h => h) (Or.inl ⟨by rfl, ?hy6⟩) hHeld ?rest6
            case hy6 => (intro w hSw; (try dsimp only at hSw); go_simp; try with_reducible rfl)
            try simp only [Act.put, List.getElem_toArray, List.getElem_cons_succ, List.getElem_cons_zero, List.setIfInBounds_toArray, List.set_cons_zero, List.set_cons_succ]
            refine wpAnyH_take (i := 6) (v := ?v7) rfl (by kernel_rfl) (by kernel_rfl) (by kernel_rfl) (fun _ _ _ h => h) (Or.inl ⟨by rfl, ?hy7⟩) hHeld ?rest7
            case hy7 => (intro w hSw; (try dsimp only at hSw); go_simp; try with_reducible rfl)
            try simp only [Act.put, List.getElem_toArray, List.getElem_cons_succ, List.getElem_cons_zero, List.setIfInBounds_toArray, List.set_cons_zero, List.set_cons_succ]
            refine wpAnyH_ready (rs := [7]) (by kernel_rfl) (by simp) ?_
            refine AllReadyH.cons rfl (fun K hK => ?_) AllReadyH.nil
            have hPrev := Lib.hid hHeld
            clear hHeld
            go_simp
            refine (HSC.out j (by omega) _).mono ?_
            rintro e' wa ⟨rfl, hba⟩
            go_simp
            refine hK.out _ _ (⟨hPrev.out.1.trans (hba.mono hPrev.out.1.size), (hba.cell (World.block_lt_of_cell? _ _ hPrev.out.2.1)).trans hPrev.out.2.1, (hba.cell (World.block_lt_of_cell? _ _ hPrev.out.2.2.1)).trans hPrev.out.2.2.1, (hba.cell (World.block_lt_of_cell? _ _ hPrev.out.2.2.2.1)).trans hPrev.out.2.2.2.1, (hba.cell (World.block_lt_of_cell? _ _ hPrev.out.2.2.2.2)).trans hPrev.out.2.2.2.2⟩) (fun hHeld => ?_)
            clear hK K hPrev
            try simp only [Act.put, List.getElem_toArray, List.getElem_cons_succ, List.getElem_cons_zero, List.setIfInBounds_toArray, List.set_cons_zero, List.set_cons_succ]
            refine wpAnyH_ready (rs := [8]) (by kernel_rfl) (by simp) ?_
            refine AllReadyH.cons rfl (fun K hK => ?_) AllReadyH.nil
            have hPrev := Lib.hid hHeld
            clear hHeld
            go_simp
            refine (HRDx.out _ (HBr.out.trans (hPrev.out.1.mono HBr.out.size))).mono ?_
            rintro e' wb ⟨rfl, hbb⟩
            go_simp
            refine hK.out _ _ (⟨hPrev.out.1.trans (hbb.mono hPrev.out.1.size), (hbb.cell (World.block_lt_of_cell? _ _ hPrev.out.2.1)).trans hPrev.out.2.1, (hbb.cell (World.block_lt_of_cell? _ _ hPrev.out.2.2.1)).trans hPrev.out.2.2.1, (hbb.cell (World.block_lt_of_cell? _ _ hPrev.out.2.2.2.1)).trans hPrev.out.2.2.2.1, (hbb.cell (World.block_lt_of_cell? _ _ hPrev.out.2.2.2.2)).trans hPrev.out.2.2.2.2⟩) (fun hHeld => ?_)
            clear hK K hPrev
            try simp only [Act.put, List.getElem_toArray, List.getElem_cons_succ, List.getElem_cons_zero, List.setIfInBounds_toArray, List.set_cons_zero, List.set_cons_succ]
            refine wpAnyH_take (i := 9) (v := ?v10) rfl (by kernel_rfl) (by kernel_rfl) (by kernel_rfl) (fun _ _ _ h => h) (Or.inl ⟨by rfl, ?hy10⟩) hHeld ?rest10
            case hy10 => (intro w hSw; (try dsimp only at hSw); go_simp; try with_reducible rfl)
            try simp only [Act.put, List.getElem_toArray, List.getElem_cons_succ, List.getElem_cons_zero, List.setIfInBounds_toArray, List.set_cons_zero, List.set_cons_succ]
            refine wpAnyH_take (i := 10) (v := ?v11) rfl (by kernel_rfl) (by kernel_rfl) (by kernel_rfl) (fun _ _ _ h => h) (Or.inl ⟨by rfl, ?hy11⟩) hHeld ?rest11
            case hy11 => (intro w hSw; (try dsimp only at hSw); go_simp; try with_reducible rfl)
            try simp only [Act.put, List.getElem_toArray, List.getElem_cons_succ, List.getElem_cons_zero, List.setIfInBounds_toArray, List.set_cons_zero, List.set_cons_succ]
            refine wpAnyH_take (i := 11) (v := ?v12) rfl (by kernel_rfl) (by kernel_rfl) (by kernel_rfl) (fun _ _ _ h => h) (Or.inl ⟨by rfl, ?hy12⟩) hHeld ?rest12
            case hy12 => (intro w hSw; (try dsimp only at hSw); go_simp; try with_reducible rfl)
            try simp only [Act.put, List.getElem_toArray, List.getElem_cons_succ, List.getElem_cons_zero, List.setIfInBounds_toArray, List.set_cons_zero, List.set_cons_succ]
            refine wpAnyH_take (i := 12) (v := ?v13) rfl (by kernel_rfl) (by kernel_rfl) (by kernel_rfl) (fun _ _ _ h => h) (Or.inl ⟨by rfl, ?hy13⟩) hHeld ?rest13
            case hy13 => (intro w hSw; (try dsimp only at hSw); go_simp; try with_reducible rfl)
            try simp only [Act.put, List.getElem_toArray, List.getElem_cons_succ, List.getElem_cons_zero, List.setIfInBounds_toArray, List.set_cons_zero, List.set_cons_succ]
            refine wpAnyH_take (i := 13) (v := ?v14) rfl (by kernel_rfl) (by kernel_rfl) (by kernel_rfl) (fun _ _ _ h => h) (Or.inl ⟨by rfl, ?hy14⟩) hHeld ?rest14
            case hy14 => (intro w hSw; (try dsimp only at hSw); go_simp; try with_reducible rfl)
            try simp only [Act.put, List.getElem_toArray, List.getElem_cons_succ, List.getElem_cons_zero, List.setIfInBounds_toArray, List.set_cons_zero, List.set_cons_succ]
            refine wpAnyH_done (by kernel_rfl) ?_ _
            have HO6 := Lib.hid (HO.out.below hHeld.1)
            have t3 := HO6.out.2.2.1.cells 3 _ rfl
            simp only [List.getElem_toArray, List.getElem_cons_zero, List.getElem_cons_succ] at t3
            clear hHeld q0 q1 t0 t1 HO HBr
            have hz6 : w.heap.size + 1 + 1 + 1 ≤ wb.heap.size := HO6.out.2.2.1.lt
            have hTk : L.take j ++ [x] = L.take (j + 1) := by
              obtain ⟨hlt', he⟩ := List.getElem?_eq_some_iff.1 HXX.out
              rw [List.take_succ_eq_append_getElem hlt', he]
            have hTl : (L.take j).length = j := by rw [List.length_take]; have := HLL.out; omega
            have HTk := Lib.hid (And.intro hTk hTl)
            clear hTk hTl
            go_wp2_with (at_builtin; refine wpList_append_str rfl (.tmp 79) (.tmp 81) rfl rfl (orow_alloc HO6.out.2.2.2.2 _) wb.heap.size x rfl (Blk.new _ _ _) j HTk.out.2 _ HTk.out.1 (by omega) (by simp; omega) ?_; intro A7 c7 w7 HR7 hg7 hb7; have hba7 : Below (w.heap.size + 1 + 1 + 1) wb w7 := Below.trans (by go_grown) hb7; have HO7 := Lib.hid (HO6.out.step hba7 HR7.out); have hk7 := HO6.out.2.2.1.below hba7 (by omega); have r3 := hk7.cells 3 _ rfl; have rf := hk7.frozen; have rl := hk7.lt; simp only [List.getElem_toArray, List.getElem_cons_zero, List.getElem_cons_succ] at r3; clear hk7 hba7 HR7 hg7 hb7)
            go_roundw
            case rel => exact ⟨j + 1, c7, A7, by omega, by go_num, HO7⟩
            case measure => simp [intOf]; omega
          · obtain rfl : j = N := by omega
            have i1 : ¬ (j : Int) < (j : Int) := by omega
            have hTL : L.take j = L := List.take_of_length_le (by have := HLL.out; omega)
            have hs : SRow wr (w.heap.size + 1 + 1 + 1) (.slice Aj j cj) L := by have := HO.out.2.2.2.2; rw [hTL] at this; exact this
            have hSl := srow_slr hs HLL.out
            have HVC := Lib.hid (fun W (hW : Below wr.heap.size wr W) => vcheck_any ⟨L, root⟩ Aj j cj W ((hSl.below hW).more hW.size) (fun x hx => by have := HLS.out x hx; omega) (by show root.size ≤ _; omega))
            have HVR := Lib.hid (fun W (hW : Below wr.heap.size wr W) => vrooted_any ⟨L, root⟩ Aj j cj W ((hSl.below hW).more hW.size) (by omega) (fun x hx => by have := HLS.out x hx; omega) (HE.out.below (HO.out.2.2.2.1.trans (hW.mono HO.out.2.2.2.1.size))))
            have HS := Lib.hid hs
            have t0 := HO.out.2.2.1.cells 0 _ rfl
            have t3 := HO.out.2.2.1.cells 3 _ rfl
            have t4 := HO.out.2.2.1.cells 4 _ rfl
            simp only [List.getElem_toArray, List.getElem_cons_zero, List.getElem_cons_succ] at t0 t3 t4
            obtain ⟨vb, hvb⟩ : ∃ V, volB ⟨L, root⟩ = V := ⟨_, rfl⟩
            obtain ⟨vr, hvr⟩ : ∃ V, rootedB ⟨L, root⟩ = V := ⟨_, rfl⟩
            rw [hvb] at HVC
            rw [hvr] at HVR
            have HVB := Lib.hid hvb
            have HVW := Lib.hid hvr
            clear hTL hs hSl hvb hvr HRD HSC
            dsimp only at HVC HVR
            go_wp2_with fail
            refine (HVC.out _ (Below.refl _ _)).mono ?_
            rintro e w5 ⟨rfl, hb5⟩
            have HO5 := Lib.hid (HO.out.below hb5)
            have HB5 := Lib.hid hb5
            clear hb5 HVC t0
            cases vb
            · have hx := HO5.out.2.1
              have hB := HO5.out.2.2.2.1
              clear HO5 HO HB5 t3 t4 HVR
              have z0 := hx.cells 0 _ rfl
              have z1 := hx.cells 1 _ rfl
              have z2 := hx.cells 2 _ rfl
              have z3 := hx.cells 3 _ rfl
              have z4 := hx.cells 4 _ rfl
              simp only [List.getElem_toArray, List.getElem_cons_zero, List.getElem_cons_succ] at z0 z1 z2 z3 z4
              have zf := hx.frozen
              have zl := hx.lt
              have y9 := ((((hx.set_ 0 (.int .i64 0)).set_ 1 (.int .i64 0)).set_ 2 (.int .i64 0)).set_ 3 (.slice none 0 0)).set_ 4 (.string ⟨#[]⟩)
              simp only [List.setIfInBounds_toArray, List.set_cons_zero, List.set_cons_succ] at y9
              have b9 : Below w.heap.size w (((((w5.setCell ⟨w.heap.size + 1, 0, none⟩ (.int .i64 0)).setCell ⟨w.heap.size + 1, 1, none⟩ (.int .i64 0)).setCell ⟨w.heap.size + 1, 2, none⟩ (.int .i64 0)).setCell ⟨w.heap.size + 1, 3, none⟩ (.slice none 0 0)).setCell ⟨w.heap.size + 1, 4, none⟩ (.string ⟨#[]⟩)) := ((((hB.setCell (p := ⟨w.heap.size + 1, 0, none⟩) (Nat.le_succ _) _).setCell (p := ⟨w.heap.size + 1, 1, none⟩) (Nat.le_succ _) _).setCell (p := ⟨w.heap.size + 1, 2, none⟩) (Nat.le_succ _) _).setCell (p := ⟨w.heap.size + 1, 3, none⟩) (Nat.le_succ _) _).setCell (p := ⟨w.heap.size + 1, 4, none⟩) (Nat.le_succ _) _
              have H9 := Lib.hid (And.intro y9 b9)
              clear hx hB y9 b9
              go_wp2_with (with_reducible refine end_at ?_)
              obtain ⟨y9, b9⟩ := H9.out
              have hld := chest_load y9
              generalize (((((w5.setCell ⟨w.heap.size + 1, 0, none⟩ (.int .i64 0)).setCell ⟨w.heap.size + 1, 1, none⟩ (.int .i64 0)).setCell ⟨w.heap.size + 1, 2, none⟩ (.int .i64 0)).setCell ⟨w.heap.size + 1, 3, none⟩ (.slice none 0 0)).setCell ⟨w.heap.size + 1, 4, none⟩ (.string ⟨#[]⟩)) = W9 at *
              refine end_ret (v := .tuple #[chestW 0 0 0 none 0 0 ⟨#[]⟩, .int .i64 160]) (by simp [results, Tryz.results25, asAddr, hld]) rfl ?_
              rw [← HRR.out, if_pos HVB.out]
              exact ⟨_, rfl, ChestOut.none_ _ _, b9⟩
            · have t3 := HO5.out.2.2.1.cells 3 _ rfl
              have t4 := HO5.out.2.2.1.cells 4 _ rfl
              simp only [List.getElem_toArray, List.getElem_cons_zero, List.getElem_cons_succ] at t3 t4
              go_wp2_with fail
              refine (HVR.out _ HB5.out).mono ?_
              rintro e w6 ⟨rfl, hb6⟩
              have HO6 := Lib.hid (HO5.out.below hb6)
              have HB6 := Lib.hid (HB5.out.trans (hb6.mono HB5.out.size))
              clear hb6 HVR HO5 t3 t4
              cases vr
              · have hx := HO6.out.2.1
                have hB := HO6.out.2.2.2.1
                clear HO6 HO HB5 HB6
                have z0 := hx.cells 0 _ rfl
                have z1 := hx.cells 1 _ rfl
                have z2 := hx.cells 2 _ rfl
                have z3 := hx.cells 3 _ rfl
                have z4 := hx.cells 4 _ rfl
                simp only [List.getElem_toArray, List.getElem_cons_zero, List.getElem_cons_succ] at z0 z1 z2 z3 z4
                have zf := hx.frozen
                have zl := hx.lt
                have y9 := ((((hx.set_ 0 (.int .i64 0)).set_ 1 (.int .i64 0)).set_ 2 (.int .i64 0)).set_ 3 (.slice none 0 0)).set_ 4 (.string ⟨#[]⟩)
                simp only [List.setIfInBounds_toArray, List.set_cons_zero, List.set_cons_succ] at y9
                have b9 : Below w.heap.size w (((((w6.setCell ⟨w.heap.size + 1, 0, none⟩ (.int .i64 0)).setCell ⟨w.heap.size + 1, 1, none⟩ (.int .i64 0)).setCell ⟨w.heap.size + 1, 2, none⟩ (.int .i64 0)).setCell ⟨w.heap.size + 1, 3, none⟩ (.slice none 0 0)).setCell ⟨w.heap.size + 1, 4, none⟩ (.string ⟨#[]⟩)) := ((((hB.setCell (p := ⟨w.heap.size + 1, 0, none⟩) (Nat.le_succ _) _).setCell (p := ⟨w.heap.size + 1, 1, none⟩) (Nat.le_succ _) _).setCell (p := ⟨w.heap.size + 1, 2, none⟩) (Nat.le_succ _) _).setCell (p := ⟨w.heap.size + 1, 3, none⟩) (Nat.le_succ _) _).setCell (p := ⟨w.heap.size + 1, 4, none⟩) (Nat.le_succ _) _
                have H9 := Lib.hid (And.intro y9 b9)
                clear hx hB y9 b9
                go_wp2_with (with_reducible refine end_at ?_)
                obtain ⟨y9, b9⟩ := H9.out
                have hld := chest_load y9
                generalize (((((w6.setCell ⟨w.heap.size + 1, 0, none⟩ (.int .i64 0)).setCell ⟨w.heap.size + 1, 1, none⟩ (.int .i64 0)).setCell ⟨w.heap.size + 1, 2, none⟩ (.int .i64 0)).setCell ⟨w.heap.size + 1, 3, none⟩ (.slice none 0 0)).setCell ⟨w.heap.size + 1, 4, none⟩ (.string ⟨#[]⟩)) = W9 at *
                refine end_ret (v := .tuple #[chestW 0 0 0 none 0 0 ⟨#[]⟩, .int .i64 161]) (by simp [results, Tryz.results25, asAddr, hld]) rfl ?_
                rw [← HRR.out, if_neg (by rw [HVB.out]; decide), if_pos HVW.out]
                exact ⟨_, rfl, ChestOut.none_ _ _, b9⟩
              · have hx := HO6.out.2.1
                have hB := HO6.out.2.2.2.1
                have hs6 : SRow w6 (w.heap.size + 1 + 1 + 1) (.slice Aj j cj) L := orow_below HS.out HB6.out (Nat.le_refl _)
                have u0 := HO6.out.2.2.1.cells 0 _ rfl
                have u1 := HO6.out.2.2.1.cells 1 _ rfl
                have u2 := HO6.out.2.2.1.cells 2 _ rfl
                have u3 := HO6.out.2.2.1.cells 3 _ rfl
                have u4 := HO6.out.2.2.1.cells 4 _ rfl
                have z0 := hx.cells 0 _ rfl
                have z1 := hx.cells 1 _ rfl
                have z2 := hx.cells 2 _ rfl
                have z3 := hx.cells 3 _ rfl
                have z4 := hx.cells 4 _ rfl
                simp only [List.getElem_toArray, List.getElem_cons_zero, List.getElem_cons_succ] at z0 z1 z2 z3 z4 u0 u1 u2 u3 u4
                have zf := hx.frozen
                have zl := hx.lt
                have y9 := ((((hx.set_ 0 (.int .i64 (j : Nat))).set_ 1 (.int .i64 (a : Nat))).set_ 2 (.int .i64 (g : Nat))).set_ 3 (.slice Aj j cj)).set_ 4 (.string root)
                simp only [List.setIfInBounds_toArray, List.set_cons_zero, List.set_cons_succ] at y9
                have b9 : Below w.heap.size w (((((w6.setCell ⟨w.heap.size + 1, 0, none⟩ (.int .i64 (j : Nat))).setCell ⟨w.heap.size + 1, 1, none⟩ (.int .i64 (a : Nat))).setCell ⟨w.heap.size + 1, 2, none⟩ (.int .i64 (g : Nat))).setCell ⟨w.heap.size + 1, 3, none⟩ (.slice Aj j cj)).setCell ⟨w.heap.size + 1, 4, none⟩ (.string root)) := ((((hB.setCell (p := ⟨w.heap.size + 1, 0, none⟩) (Nat.le_succ _) _).setCell (p := ⟨w.heap.size + 1, 1, none⟩) (Nat.le_succ _) _).setCell (p := ⟨w.heap.size + 1, 2, none⟩) (Nat.le_succ _) _).setCell (p := ⟨w.heap.size + 1, 3, none⟩) (Nat.le_succ _) _).setCell (p := ⟨w.heap.size + 1, 4, none⟩) (Nat.le_succ _) _
                have s9 : SRow (((((w6.setCell ⟨w.heap.size + 1, 0, none⟩ (.int .i64 (j : Nat))).setCell ⟨w.heap.size + 1, 1, none⟩ (.int .i64 (a : Nat))).setCell ⟨w.heap.size + 1, 2, none⟩ (.int .i64 (g : Nat))).setCell ⟨w.heap.size + 1, 3, none⟩ (.slice Aj j cj)).setCell ⟨w.heap.size + 1, 4, none⟩ (.string root)) (w.heap.size + 1 + 1 + 1) (.slice Aj j cj) L := orow_low (orow_low (orow_low (orow_low (orow_low hs6 (by omega) _ _) (by omega) _ _) (by omega) _ _) (by omega) _ _) (by omega) _ _
                have H9 := Lib.hid (And.intro y9 (And.intro b9 s9))
                clear hx hB y9 b9 s9 hs6 HO6 HO HB5 HB6
                go_wp2_with (with_reducible refine end_at ?_)
                obtain ⟨y9, b9, s9⟩ := H9.out
                have hld := chest_load y9
                generalize (((((w6.setCell ⟨w.heap.size + 1, 0, none⟩ (.int .i64 (j : Nat))).setCell ⟨w.heap.size + 1, 1, none⟩ (.int .i64 (a : Nat))).setCell ⟨w.heap.size + 1, 2, none⟩ (.int .i64 (g : Nat))).setCell ⟨w.heap.size + 1, 3, none⟩ (.slice Aj j cj)).setCell ⟨w.heap.size + 1, 4, none⟩ (.string root)) = W9 at *
                refine end_ret (v := .tuple #[chestW j a g Aj j cj root, .int .i64 0]) (by simp [results, Tryz.results25, asAddr, hld]) rfl ?_
                rw [← HRR.out, if_neg (by rw [HVB.out]; decide), if_neg (by rw [HVW.out]; decide)]
                refine ⟨_, rfl, ⟨Aj, cj, ?_, ?_⟩, b9⟩
                · show chestW _ _ _ _ _ _ _ = chestW _ _ _ _ _ _ _
                  dsimp only
                  rw [HLL.out]
                · dsimp only
                  rw [HLL.out]
                  exact Lib.hid (orow_base s9 (by omega))
    · rw [if_pos hge]
      clear hgs hgz HE hl hck hN64 hNn hN1
      dsimp only at *
      go_enter Tryz.func25, Tryz.ntmps25
      go_wp2_with fail
      refine (HSI.out _).mono ?_
      rintro e w1 ⟨rfl, rfl⟩
      generalize (((w.alloc (.cells #[.slice A n c, .slice A' m d] 42)).alloc (.cells #[.int .i64 0, .int .i64 0, .int .i64 0, .slice none 0 0, .string ⟨#[]⟩] 71)).alloc (.cells #[.int .i64 0, .int .i64 0, .int .i64 0, .slice none 0 0, .string ⟨#[]⟩] 71)) = w0 at *
      have t0 := (HX0.out.2.2).cells 0 _ rfl
      have tf := (HX0.out.2.2).frozen
      have tl := (HX0.out.2.2).lt
      have p0 := (HX0.out.1).cells 0 _ rfl
      have p1 := (HX0.out.1).cells 1 _ rfl
      simp only [List.getElem_toArray, List.getElem_cons_zero, List.getElem_cons_succ] at t0 p0 p1
      have hx1 : Blk (w0.setCell ⟨w.heap.size + 1 + 1, 0, none⟩ (.int .i64 N)) (w.heap.size + 1) 71 #[.int .i64 0, .int .i64 0, .int .i64 0, .slice none 0 0, .string ⟨#[]⟩] := (HX0.out.2.1).far (by show w.heap.size + 1 ≠ w.heap.size + 1 + 1; omega) _
      have hp1 : Blk (w0.setCell ⟨w.heap.size + 1 + 1, 0, none⟩ (.int .i64 N)) w.heap.size 42 #[.slice A n c, .slice A' m d] := (HX0.out.1).far (by show w.heap.size ≠ w.heap.size + 1 + 1; omega) _
      have ht1 := (HX0.out.2.2).set_ 0 (.int .i64 N)
      simp only [List.setIfInBounds_toArray, List.set_cons_zero, List.set_cons_succ] at ht1
      have hB1 : Below w.heap.size w (w0.setCell ⟨w.heap.size + 1 + 1, 0, none⟩ (.int .i64 N)) := HB0.out.setCell (p := ⟨w.heap.size + 1 + 1, 0, none⟩) (by show w.heap.size ≤ w.heap.size + 1 + 1; omega) _
      have H1 := Lib.hid (And.intro hp1 (And.intro hx1 (And.intro ht1 hB1)))
      clear hx1 hp1 ht1 hB1 HB0 HX0
      go_wp2_with fail
      generalize w0.setCell ⟨w.heap.size + 1 + 1, 0, none⟩ (.int .i64 N) = w1 at *
      refine (HGE.out _ H1.out.2.2.2).mono ?_
      rintro e w2 ⟨rfl, hb2⟩
      dsimp only
      have H2 : Hid (Blk w2 w.heap.size 42 #[.slice A n c, .slice A' m d] ∧ Blk w2 (w.heap.size + 1) 71 #[.int .i64 0, .int .i64 0, .int .i64 0, .slice none 0 0, .string ⟨#[]⟩] ∧ Blk w2 (w.heap.size + 1 + 1) 71 #[.int .i64 N, .int .i64 0, .int .i64 0, .slice none 0 0, .string ⟨#[]⟩] ∧ Below w.heap.size w w2) :=
        Lib.hid ⟨H1.out.1.below hb2 H1.out.1.lt, H1.out.2.1.below hb2 H1.out.2.1.lt, H1.out.2.2.1.below hb2 H1.out.2.2.1.lt, H1.out.2.2.2.trans (hb2.mono H1.out.2.2.2.size)⟩
      clear hb2 H1 t0 tf tl p0 p1 HGE
      have hx := H2.out.2.1
      have hB := H2.out.2.2.2
      clear H2
      have z0 := hx.cells 0 _ rfl
      have z1 := hx.cells 1 _ rfl
      have z2 := hx.cells 2 _ rfl
      have z3 := hx.cells 3 _ rfl
      have z4 := hx.cells 4 _ rfl
      simp only [List.getElem_toArray, List.getElem_cons_zero, List.getElem_cons_succ] at z0 z1 z2 z3 z4
      have zf := hx.frozen
      have zl := hx.lt
      have y9 := ((((hx.set_ 0 (.int .i64 0)).set_ 1 (.int .i64 0)).set_ 2 (.int .i64 0)).set_ 3 (.slice none 0 0)).set_ 4 (.string ⟨#[]⟩)
      simp only [List.setIfInBounds_toArray, List.set_cons_zero, List.set_cons_succ] at y9
      have b9 : Below w.heap.size w (((((w2.setCell ⟨w.heap.size + 1, 0, none⟩ (.int .i64 0)).setCell ⟨w.heap.size + 1, 1, none⟩ (.int .i64 0)).setCell ⟨w.heap.size + 1, 2, none⟩ (.int .i64 0)).setCell ⟨w.heap.size + 1, 3, none⟩ (.slice none 0 0)).setCell ⟨w.heap.size + 1, 4, none⟩ (.string ⟨#[]⟩)) := ((((hB.setCell (p := ⟨w.heap.size + 1, 0, none⟩) (Nat.le_succ _) _).setCell (p := ⟨w.heap.size + 1, 1, none⟩) (Nat.le_succ _) _).setCell (p := ⟨w.heap.size + 1, 2, none⟩) (Nat.le_succ _) _).setCell (p := ⟨w.heap.size + 1, 3, none⟩) (Nat.le_succ _) _).setCell (p := ⟨w.heap.size + 1, 4, none⟩) (Nat.le_succ _) _
      have H9 := Lib.hid (And.intro y9 b9)
      clear hx hB y9 b9
      go_wp2_with (with_reducible refine end_at ?_)
      obtain ⟨y9, b9⟩ := H9.out
      have hld := chest_load y9
      generalize (((((w2.setCell ⟨w.heap.size + 1, 0, none⟩ (.int .i64 0)).setCell ⟨w.heap.size + 1, 1, none⟩ (.int .i64 0)).setCell ⟨w.heap.size + 1, 2, none⟩ (.int .i64 0)).setCell ⟨w.heap.size + 1, 3, none⟩ (.slice none 0 0)).setCell ⟨w.heap.size + 1, 4, none⟩ (.string ⟨#[]⟩)) = W9 at *
      refine end_ret (v := .tuple #[chestW 0 0 0 none 0 0 ⟨#[]⟩, .int .i64 ge]) (by simp [results, Tryz.results25, asAddr, hld]) rfl ⟨_, rfl, ChestOut.none_ _ _, b9⟩
end Go.Proofs.YtpkomloblhbkiaaGreatDoor
