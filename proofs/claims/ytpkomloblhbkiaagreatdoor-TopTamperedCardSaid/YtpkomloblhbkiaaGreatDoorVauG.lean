/- vault: a deed that lays a block into the other area. -/
import Derived.Test.YtpkomloblhbkiaaGreatDoorVauC
import Derived.BigRegion
import Derived.Test.YtpkomloblhbkiaaGreatDoorNonG
import Derived.Test.YtpkomloblhbkiaaGreatDoorRowsOpen
set_option linter.unusedVariables false
set_option linter.unusedSimpArgs false
/- vault.Load. -/
namespace Go.Proofs.YtpkomloblhbkiaaGreatDoor
open Go.RowKit
def loadP (p : Plat) : Vol × Nat × Int := if (openP p).2 = 0 then ((openP p).1.vol, (openP p).1.gen, 0) else (noVol, 0, (openP p).2)
set_option maxRecDepth 100000 in
set_option maxHeartbeats 2000000 in
theorem load_any (p : Plat) (A A' : Option Addr) (n m c d : Nat) (w : World) (hP : PlatAt w w.heap.size A n A' m p) (hn : n ≤ 1000000) (hE : Env w) :
    Calls Tryz.prog 10 #[.agg #[.slice A n c, .slice A' m d]] w fun e w' => ∃ v, e = .returned (.tuple #[v, .int .i64 ((loadP p).2.1 : Nat), .int .i64 (loadP p).2.2]) ∧ VolOut w' w.heap.size v (loadP p).1 ∧ Below w.heap.size w w' := by
  have HP := hP.pre
  have HOP := Lib.hid (fun W (hW : Below w.heap.size w W) => open_any' p A A' n m c d W (HP.step hW) hn (hE.below hW))
  have HB0 : Hid (Below w.heap.size w ((w.alloc (.cells #[.slice A n c, .slice A' m d] 42)).alloc (.cells #[.slice none 0 0, .string ⟨#[]⟩] 36))) := Lib.hid (by go_grown)
  have HX0 : Hid (Blk ((w.alloc (.cells #[.slice A n c, .slice A' m d] 42)).alloc (.cells #[.slice none 0 0, .string ⟨#[]⟩] 36)) (w.heap.size + 1) 36 #[.slice none 0 0, .string ⟨#[]⟩]) := Lib.hid (Blk.new_at (by simp) _ _)
  obtain ⟨R, hR⟩ : ∃ R, loadP p = R := ⟨_, rfl⟩
  rw [hR]
  obtain ⟨⟨C, er⟩, hO⟩ : ∃ V, openP p = V := ⟨_, rfl⟩
  have hR2 : R = if er = 0 then (C.vol, C.gen, 0) else (noVol, 0, er) := by rw [← hR]; unfold loadP; rw [hO]
  rw [hO] at HOP
  clear hP hE hR hO
  dsimp only at HOP
  by_cases her : er = 0
  · subst her
    rw [if_pos rfl] at hR2
    have HR := Lib.hid hR2
    clear hR2
    go_enter Tryz.func10, Tryz.ntmps10
    go_wp2_with fail
    refine (HOP.out _ HB0.out).mono ?_
    rintro e w1 ⟨v, rfl, ⟨A1, c1, rfl, hs1⟩, hb1⟩
    have hs1 := orow_base hs1.out HB0.out.size
    obtain ⟨k, hk⟩ : ∃ k, C.vol.blocks.length = k := ⟨_, rfl⟩
    rw [hk] at hs1 ⊢
    have HB1 := Lib.hid (HB0.out.trans (hb1.mono HB0.out.size))
    have hx1 := HX0.out.below hb1 (by simp)
    unfold chestW
    have hx2 := hx1.alloc (.cells #[.int .i64 C.n, .int .i64 C.area, .int .i64 C.gen, .slice A1 k c1, .string C.vol.root] 71)
    have ht2 : Blk (w1.alloc (.cells #[.int .i64 C.n, .int .i64 C.area, .int .i64 C.gen, .slice A1 k c1, .string C.vol.root] 71)) w1.heap.size 71 #[.int .i64 C.n, .int .i64 C.area, .int .i64 C.gen, .slice A1 k c1, .string C.vol.root] := Blk.new _ _ _
    have hs2 : SRow (w1.alloc (.cells #[.int .i64 C.n, .int .i64 C.area, .int .i64 C.gen, .slice A1 k c1, .string C.vol.root] 71)) w.heap.size (.slice A1 k c1) C.vol.blocks := orow_alloc hs1 _
    have hB2 : Below w.heap.size w (w1.alloc (.cells #[.int .i64 C.n, .int .i64 C.area, .int .i64 C.gen, .slice A1 k c1, .string C.vol.root] 71)) := HB1.out.alloc HB1.out.size _
    have hx1lt := hx1.lt
    have H2 := Lib.hid (And.intro hx2 (And.intro ht2 (And.intro hs2 (And.intro hB2 hx1lt))))
    have HK := Lib.hid hk
    clear hx1 hx2 ht2 hs1 hs2 hB2 hb1 HB1 HOP HX0 HB0 hk
    obtain ⟨Cn, Ca, Cg, ⟨L, root⟩⟩ := C
    dsimp only at *
    go_upto_region 4 with fail
    generalize w1.alloc (.cells #[.int .i64 Cn, .int .i64 Ca, .int .i64 Cg, .slice A1 k c1, .string root] 71) = w2 at *
    obtain ⟨hx2, ht2, hs2, hB2, hlt2⟩ := H2.out
    have u2 := ht2.cells 2 _ rfl
    have u3 := ht2.cells 3 _ rfl
    have u4 := ht2.cells 4 _ rfl
    have z0 := hx2.cells 0 _ rfl
    have z1 := hx2.cells 1 _ rfl
    simp only [List.getElem_toArray, List.getElem_cons_zero, List.getElem_cons_succ] at z0 z1 u2 u3 u4
    have zf := hx2.frozen
    have zl := hx2.lt
    have tl := ht2.lt
    have y9 := (hx2.set_ 0 (.slice A1 k c1)).set_ 1 (.string root)
    simp only [List.setIfInBounds_toArray, List.set_cons_zero, List.set_cons_succ] at y9
    have hne : (Value.slice A1 k c1).ownBlock ≠ some (w.heap.size + 1) := own_blk_ne hs2 hx2 (by decide)
    have s9 : SRow ((w2.setCell ⟨w.heap.size + 1, 0, none⟩ (.slice A1 k c1)).setCell ⟨w.heap.size + 1, 1, none⟩ (.string root)) w.heap.size (.slice A1 k c1) L := own_far (own_far hs2 hne _ _) hne _ _
    have b9 : Below w.heap.size w ((w2.setCell ⟨w.heap.size + 1, 0, none⟩ (.slice A1 k c1)).setCell ⟨w.heap.size + 1, 1, none⟩ (.string root)) := (hB2.setCell (p := ⟨w.heap.size + 1, 0, none⟩) (Nat.le_succ _) _).setCell (p := ⟨w.heap.size + 1, 1, none⟩) (Nat.le_succ _) _
    have v2 := (ht2.far (p := ⟨w.heap.size + 1, 0, none⟩) (by show w1.heap.size ≠ w.heap.size + 1; omega) (.slice A1 k c1)).far (p := ⟨w.heap.size + 1, 1, none⟩) (by show w1.heap.size ≠ w.heap.size + 1; omega) (.string root)
    have v2' := v2.cells 2 _ rfl
    have v3' := v2.cells 3 _ rfl
    have v4' := v2.cells 4 _ rfl
    simp only [List.getElem_toArray, List.getElem_cons_zero, List.getElem_cons_succ] at v2' v3' v4'
    have H9 := Lib.hid (And.intro y9 (And.intro b9 s9))
    clear hx2 ht2 hs2 hB2 y9 b9 s9 hne v2 H2
    go_region
    all_goals skip
    go_wp2_with (with_reducible refine end_at ?_)
    obtain ⟨y9, b9, s9⟩ := H9.out
    generalize (w2.setCell ⟨w.heap.size + 1, 0, none⟩ (.slice A1 k c1)).setCell ⟨w.heap.size + 1, 1, none⟩ (.string root) = W9 at *
    have hld := vol_load (show Blk W9.drew _ _ _ from y9)
    have b9 : Below w.heap.size w W9.drew := b9.drew
    have s9 : SRow W9.drew w.heap.size (.slice A1 k c1) L := orow_drew s9
    refine end_ret (v := .tuple #[.agg #[.slice A1 k c1, .string root], .int .i64 Cg, .int .i64 0]) (by simp [results, Tryz.results10, asAddr, hld]) rfl ?_
    rw [HR.out]
    refine ⟨_, rfl, ⟨A1, c1, ?_, ?_⟩, b9⟩
    · dsimp only
      rw [HK.out]
    · dsimp only
      rw [HK.out]
      exact Lib.hid s9
  · rw [if_neg her] at hR2
    have HR := Lib.hid hR2
    clear hR2
    go_enter Tryz.func10, Tryz.ntmps10
    go_wp2_with fail
    refine (HOP.out _ HB0.out).mono ?_
    rintro e w1 ⟨v, rfl, ⟨A1, c1, rfl, hs1⟩, hb1⟩
    have HB1 := Lib.hid (HB0.out.trans (hb1.mono HB0.out.size))
    have hx1 := HX0.out.below hb1 (by simp)
    unfold chestW
    obtain ⟨Cn, Ca, Cg, ⟨L, root⟩⟩ := C
    dsimp only at *
    have hx2 := hx1.alloc (.cells #[.int .i64 Cn, .int .i64 Ca, .int .i64 Cg, .slice A1 L.length c1, .string root] 71)
    have hB2 : Below w.heap.size w (w1.alloc (.cells #[.int .i64 Cn, .int .i64 Ca, .int .i64 Cg, .slice A1 L.length c1, .string root] 71)) := HB1.out.alloc HB1.out.size _
    have H2 := Lib.hid (And.intro hx2 hB2)
    clear hx1 hx2 hB2 hb1 hs1 HB1 HOP HX0 HB0
    go_upto_region 3 with fail
    generalize w1.alloc (.cells #[.int .i64 Cn, .int .i64 Ca, .int .i64 Cg, .slice A1 L.length c1, .string root] 71) = w2 at *
    obtain ⟨hx2, hB2⟩ := H2.out
    have z0 := hx2.cells 0 _ rfl
    have z1 := hx2.cells 1 _ rfl
    simp only [List.getElem_toArray, List.getElem_cons_zero, List.getElem_cons_succ] at z0 z1
    have zf := hx2.frozen
    have zl := hx2.lt
    have y9 := (hx2.set_ 0 (.slice none 0 0)).set_ 1 (.string ⟨#[]⟩)
    simp only [List.setIfInBounds_toArray, List.set_cons_zero, List.set_cons_succ] at y9
    have b9 : Below w.heap.size w ((w2.setCell ⟨w.heap.size + 1, 0, none⟩ (.slice none 0 0)).setCell ⟨w.heap.size + 1, 1, none⟩ (.string ⟨#[]⟩)) := (hB2.setCell (p := ⟨w.heap.size + 1, 0, none⟩) (Nat.le_succ _) _).setCell (p := ⟨w.heap.size + 1, 1, none⟩) (Nat.le_succ _) _
    have H9 := Lib.hid (And.intro y9 b9)
    clear hx2 hB2 y9 b9 H2
    go_wp2_with (with_reducible refine end_at ?_)
    obtain ⟨y9, b9⟩ := H9.out
    have hld := vol_load y9
    generalize (w2.setCell ⟨w.heap.size + 1, 0, none⟩ (.slice none 0 0)).setCell ⟨w.heap.size + 1, 1, none⟩ (.string ⟨#[]⟩) = W9 at *
    refine end_ret (v := .tuple #[.agg #[.slice none 0 0, .string ⟨#[]⟩], .int .i64 0, .int .i64 er]) (by simp [results, Tryz.results10, asAddr, hld]) rfl ?_
    rw [HR.out]
    exact ⟨_, rfl, VolOut.none_ _ _, b9⟩
end Go.Proofs.YtpkomloblhbkiaaGreatDoor
/- vault, plain: a root's size; what Format makes. -/
namespace Go.Proofs.YtpkomloblhbkiaaGreatDoor
open Go.RowKit
theorem root_size {l : List ByteArray} (hm : mayB l.length = true) (hs : ∀ s ∈ l, s.size ≤ 1000) : (rootV l).size = 32 := by
  obtain ⟨hp, hh⟩ := hgt_may hm
  have hv : rootV l = atB (lev l (hgt l.length)) 0 := by simp [rootV, rootB, hm]
  rw [hv, atB_lev hp (Nat.le_refl _) (by rw [Nat.sub_self]; exact Nat.one_pos)]
  refine sumF_size ?_
  generalize hgt l.length = h at *
  cases h with
  | zero =>
    show (leafT (atB l 0)).size ≤ _
    have h1 : (atB l 0).size ≤ 1000 := by
      unfold atB
      rw [List.getD_eq_getElem?_getD]
      cases hx : l[0]? with
      | none => exact Nat.zero_le _
      | some x => exact hs x (List.mem_of_getElem? hx)
    have h2 : (leafT (atB l 0)).size = 1 + (atB l 0).size := by unfold leafT; rw [ByteArray.size_append]; rfl
    omega
  | succ k =>
    show (nodeT (atB (lev l k) (2 * 0)) (atB (lev l k) (2 * 0 + 1))).size ≤ _
    have hpk : 2 ≤ 2 ^ (k + 1 - k) := by rw [show k + 1 - k = 1 by omega]; decide
    have h1 : (atB (lev l k) (2 * 0)).size ≤ 32 := by rw [atB_lev hp (by omega) (by omega)]; exact sumF_le _
    have h2 : (atB (lev l k) (2 * 0 + 1)).size ≤ 32 := by rw [atB_lev hp (by omega) (by omega)]; exact sumF_le _
    have h3 : ∀ a b : ByteArray, (nodeT a b).size = 1 + a.size + b.size := fun a b => by unfold nodeT; rw [ByteArray.size_append, ByteArray.size_append]; rfl
    rw [h3]
    omega
def vformP (n : Int) : Plat × Int :=
  if countI n = true then ((putF (newF (3 + 2 * n)).1 0 (vheadB 0 0 (formatV n).1.root) (-1)).1, (putF (newF (3 + 2 * n)).1 0 (vheadB 0 0 (formatV n).1.root) (-1)).2.2) else (noPlat, 1)
theorem form_root {n : Int} (h : countI n = true) : (formatV n).1.root.size = 32 ∧ (formatV n).2 = 0 := by
  have h1 : 1 ≤ n ∧ n ≤ 64 := by
    simp only [countI, Bool.and_eq_true, decide_eq_true_eq] at h
    exact ⟨h.1, h.2.1⟩
  obtain ⟨k, rfl⟩ : ∃ k : Nat, n = k := ⟨n.toNat, by omega⟩
  unfold formatV
  rw [if_pos h]
  refine ⟨root_size ?_ ?_, rfl⟩
  · rw [List.length_replicate]; exact (count_may h).1
  · intro s hs
    rw [(List.mem_replicate.1 hs).2]
    exact Nat.zero_le _
end Go.Proofs.YtpkomloblhbkiaaGreatDoor
/- vault.Format. -/
namespace Go.Proofs.YtpkomloblhbkiaaGreatDoor
open Go.RowKit
theorem PlatOut.slices {w : World} {B : Nat} {v : Value} {p : Plat} (h : PlatOut w B v p) : ∃ A c A' c' n m, v = .agg #[.slice A n c, .slice A' m c'] ∧ p.sectors.length = n ∧ p.cache.length = m ∧ PlatAt w w.heap.size A n A' m p ∧ PlatOut w B (.agg #[.slice A n c, .slice A' m c']) p := by
  obtain ⟨A, c, A', c', rfl, h1, h2⟩ := h
  exact ⟨A, c, A', c', _, _, rfl, rfl, rfl, ⟨SlR.of_own encS_len h1 rfl, SlR.of_own encP_len h2 rfl⟩, ⟨A, c, A', c', rfl, h1, h2⟩⟩
/-- the platter's rows do not lie in a box of another kind, which is stored into -/
theorem PlatOut.far {w : World} {B g : Nat} {v : Value} {p : Plat} {t : TypeId} {cs : Array Value} (h : PlatOut w B v p) (hb : Blk w g t cs) (h1 : 9 ≠ t) (h2 : 159 ≠ t) (o : Nat) (u : Value) : PlatOut (w.setCell ⟨g, o, none⟩ u) B v p := by
  obtain ⟨A, c, A', c', e, q1, q2⟩ := h
  exact ⟨A, c, A', c', e, own_far q1 (own_blk_ne q1 hb h1) _ _, own_far q2 (own_blk_ne q2 hb h2) _ _⟩
set_option maxRecDepth 100000 in
set_option maxHeartbeats 2000000 in
theorem vaform_any (n : Int) (w : World) (hE : Env w) : Calls Tryz.prog 15 #[.int .i64 n] w (Out2P w (vformP n)) := by
  have HF := Lib.hid (fun W (hW : Below w.heap.size w W) => vformat_any n W (hE.below hW))
  have HB0 : Hid (Below w.heap.size w (w.alloc (.cells #[.slice none 0 0, .slice none 0 0] 42))) := Lib.hid (by go_grown)
  have HX0 : Hid (Blk (w.alloc (.cells #[.slice none 0 0, .slice none 0 0] 42)) w.heap.size 42 #[.slice none 0 0, .slice none 0 0]) := Lib.hid (Blk.new _ _ _)
  cases hc : countI n
  · rw [show vformP n = (noPlat, 1) by rw [vformP, if_neg (by rw [hc]; decide)]]
    rw [show formatV n = (noVol, 1) by rw [formatV, if_neg (by rw [hc]; decide)]] at HF
    clear hc hE
    go_enter Tryz.func15, Tryz.ntmps15
    go_wp2_with fail
    refine (HF.out _ HB0.out).mono ?_
    rintro e w1 ⟨v, rfl, ⟨A1, c1, rfl, _⟩, hb1⟩
    have hB1 := HB0.out.trans (hb1.mono HB0.out.size)
    have hx1 := HX0.out.below hb1 HX0.out.lt
    unfold noVol
    dsimp only [List.length_nil]
    have hx2 := hx1.alloc (.cells #[.slice A1 0 c1, .string ⟨#[]⟩] 36)
    have hB2 : Below w.heap.size w (w1.alloc (.cells #[.slice A1 0 c1, .string ⟨#[]⟩] 36)) := hB1.alloc hB1.size _
    have H2 := Lib.hid (And.intro hx2 hB2)
    clear hx1 hB1 hb1 hx2 hB2 HX0 HB0 HF
    go_upto_region 2 with fail
    generalize w1.alloc (.cells #[.slice A1 0 c1, .string ⟨#[]⟩] 36) = w2 at *
    have hx := H2.out.1
    have z0 := hx.cells 0 _ rfl
    have z1 := hx.cells 1 _ rfl
    simp only [List.getElem_toArray, List.getElem_cons_zero, List.getElem_cons_succ] at z0 z1
    have zf := hx.frozen
    have zl := hx.lt
    have y9 := plat_set hx (.slice none 0 0) (.slice none 0 0)
    have b9 : Below w.heap.size w ((w2.setCell ⟨w.heap.size, 0, none⟩ (.slice none 0 0)).setCell ⟨w.heap.size, 1, none⟩ (.slice none 0 0)) := (H2.out.2.setCell (p := ⟨w.heap.size, 0, none⟩) (Nat.le_refl _) _).setCell (p := ⟨w.heap.size, 1, none⟩) (Nat.le_refl _) _
    have H9 := Lib.hid (And.intro y9 b9)
    clear hx y9 b9 H2
    go_wp2_with (with_reducible refine end_at ?_)
    obtain ⟨y9, b9⟩ := H9.out
    have hld := plat_load y9
    generalize (w2.setCell ⟨w.heap.size, 0, none⟩ (.slice none 0 0)).setCell ⟨w.heap.size, 1, none⟩ (.slice none 0 0) = W9 at *
    exact end_ret (v := .tuple #[.agg #[.slice none 0 0, .slice none 0 0], .int .i64 1]) (by simp [results, Tryz.results15, asAddr, hld]) rfl ⟨_, rfl, PlatOut.none_ _ _, b9⟩
  · obtain ⟨hr32, hf0⟩ := form_root hc
    have h1 : 1 ≤ n ∧ n ≤ 64 := by
      simp only [countI, Bool.and_eq_true, decide_eq_true_eq] at hc
      exact ⟨hc.1, hc.2.1⟩
    obtain ⟨R, hR⟩ : ∃ R, vformP n = R := ⟨_, rfl⟩
    rw [hR]
    obtain ⟨⟨V, fe⟩, hV⟩ : ∃ V, formatV n = V := ⟨_, rfl⟩
    rw [hV] at HF hr32 hf0
    dsimp only at hf0 hr32
    subst hf0
    have hnew : (newF (3 + 2 * n)).2 = 0 := by unfold newF; rw [if_pos (by omega)]
    obtain ⟨⟨P0, pe⟩, hP0⟩ : ∃ V, newF (3 + 2 * n) = V := ⟨_, rfl⟩
    have HNW := Lib.hid (fun W => new_any (3 + 2 * n) W)
    rw [hP0] at HNW hnew
    dsimp only at hnew
    subst hnew
    have hR2 : ((putF P0 0 (vheadB 0 0 V.root) (-1)).1, (putF P0 0 (vheadB 0 0 V.root) (-1)).2.2) = R := by rw [← hR, vformP, if_pos hc, hV, hP0]
    have HR := Lib.hid hR2
    have HHD := Lib.hid (fun W => head_any 0 0 V.root W (by omega) (by omega) hr32)
    obtain ⟨Hd, hHd⟩ : ∃ h, vheadB 0 0 V.root = h := ⟨_, rfl⟩
    rw [hHd] at HHD HR
    have i1 : IntKind.i64.wrap (2 * n) = 2 * n := IntWalk.i64_in _ (by omega)
    have i2 : IntKind.i64.wrap (3 + 2 * n) = 3 + 2 * n := IntWalk.i64_in _ (by omega)
    clear hc hE hR hV hP0 hR2 hr32 hHd
    unfold Out2P at HNW ⊢
    dsimp only at HF HNW
    go_enter Tryz.func15, Tryz.ntmps15
    go_wp2_with fail
    refine (HF.out _ HB0.out).mono ?_
    rintro e w1 ⟨v, rfl, ⟨A1, c1, rfl, _⟩, hb1⟩
    have hB1 := HB0.out.trans (hb1.mono HB0.out.size)
    have hx1 := HX0.out.below hb1 HX0.out.lt
    obtain ⟨L, root⟩ := V
    dsimp only at *
    have hx2 := hx1.alloc (.cells #[.slice A1 L.length c1, .string root] 36)
    have hv2 : Blk (w1.alloc (.cells #[.slice A1 L.length c1, .string root] 36)) w1.heap.size 36 #[.slice A1 L.length c1, .string root] := Blk.new _ _ _
    have hB2 : Below w.heap.size w (w1.alloc (.cells #[.slice A1 L.length c1, .string root] 36)) := hB1.alloc hB1.size _
    have H2 := Lib.hid (And.intro hx2 (And.intro hv2 (And.intro hB2 hx1.lt)))
    clear hx1 hB1 hb1 hx2 hv2 hB2 HX0 HB0 HF
    go_upto_region 4 with fail
    generalize w1.alloc (.cells #[.slice A1 L.length c1, .string root] 36) = w2 at *
    obtain ⟨g1, hg1⟩ : ∃ g1, w1.heap.size = g1 := ⟨_, rfl⟩
    rw [hg1] at H2 ⊢
    clear hg1
    go_wp2_with fail
    refine (HNW.out _).mono ?_
    rintro e w3 ⟨v, rfl, hO3, hb3⟩
    have hO3 := hO3.base H2.out.2.2.1.size
    obtain ⟨A2, c2, A2', c2', n2, m2, rfl, hn2, hm2, hat3, hO3⟩ := hO3.slices
    have hx3 := (H2.out.1.below hb3 H2.out.1.lt).alloc (.cells #[.slice A2 n2 c2, .slice A2' m2 c2'] 42)
    have hv3 := (H2.out.2.1.below hb3 H2.out.2.1.lt).alloc (.cells #[.slice A2 n2 c2, .slice A2' m2 c2'] 42)
    have hp3 : Blk (w3.alloc (.cells #[.slice A2 n2 c2, .slice A2' m2 c2'] 42)) w3.heap.size 42 #[.slice A2 n2 c2, .slice A2' m2 c2'] := Blk.new _ _ _
    have hB3 : Below w.heap.size w w3 := H2.out.2.2.1.trans (hb3.mono H2.out.2.2.1.size)
    have hB4 : Below w.heap.size w (w3.alloc (.cells #[.slice A2 n2 c2, .slice A2' m2 c2'] 42)) := hB3.alloc hB3.size _
    have hat4 : PlatAt (w3.alloc (.cells #[.slice A2 n2 c2, .slice A2' m2 c2'] 42)) (w3.alloc (.cells #[.slice A2 n2 c2, .slice A2' m2 c2'] 42)).heap.size A2 n2 A2' m2 P0 := hat3.grow (by go_grown)
    have hgx : w.heap.size < g1 ∧ g1 < w3.heap.size := ⟨H2.out.2.2.2, Nat.lt_of_lt_of_le H2.out.2.1.lt hb3.size⟩
    have H4 := Lib.hid (And.intro hx3 (And.intro hv3 (And.intro hp3 (And.intro hB4 (And.intro hat4 hgx)))))
    have hl4 : w3.heap.size < (w3.alloc (.cells #[.slice A2 n2 c2, .slice A2' m2 c2'] 42)).heap.size := hp3.lt
    clear hx3 hv3 hp3 hB3 hB4 hat3 hat4 hb3 hO3 H2 HNW
    go_upto_region 7 with fail
    generalize w3.alloc (.cells #[.slice A2 n2 c2, .slice A2' m2 c2'] 42) = w4 at *
    have HAT := Lib.hid (fun W (hW : Below w4.heap.size w4 W) => put_any P0 0 Hd (-1) A2 A2' n2 m2 c2 c2' W (H4.out.2.2.2.2.1.grow hW))
    obtain ⟨⟨Q, dn, qe⟩, hQ⟩ : ∃ V, putF P0 0 Hd (-1) = V := ⟨_, rfl⟩
    rw [hQ] at HAT HR
    unfold OutDo at HAT
    dsimp only at HAT HR
    clear hQ
    have p0 := H4.out.2.2.1.cells 0 _ rfl
    have p1 := H4.out.2.2.1.cells 1 _ rfl
    have u1 := H4.out.2.1.cells 1 _ rfl
    simp only [List.getElem_toArray, List.getElem_cons_zero, List.getElem_cons_succ] at p0 p1 u1
    refine wp_region_T [9, 10] (fun W => Below w4.heap.size w4 W ∧ W.cell? ⟨w3.heap.size, 0, none⟩ = some (.slice A2 n2 c2) ∧ W.cell? ⟨w3.heap.size, 1, none⟩ = some (.slice A2' m2 c2') ∧ W.cell? ⟨g1, 1, none⟩ = some (.string root)) (by kernel_rfl) ?_
    have hHeld : (fun W => Below w4.heap.size w4 W ∧ W.cell? ⟨w3.heap.size, 0, none⟩ = some (.slice A2 n2 c2) ∧ W.cell? ⟨w3.heap.size, 1, none⟩ = some (.slice A2' m2 c2') ∧ W.cell? ⟨g1, 1, none⟩ = some (.string root)) _ := ⟨(Below.refl _ _).drew, p0, p1, u1⟩
    refine wT (i := 0) (v := ?tv1) rfl (Or.inl ⟨by rfl, ?th1⟩) hHeld ?tr1
    case th1 => (intro w hSw; (try dsimp only at hSw); go_simp; try with_reducible rfl)
    try simp only [Act.put, lst]
    refine wT (i := 1) (v := ?tv2) rfl (Or.inl ⟨by rfl, ?th2⟩) hHeld ?tr2
    case th2 => (intro w hSw; (try dsimp only at hSw); go_simp; try with_reducible rfl)
    try simp only [Act.put, lst]
    refine wT (i := 2) (v := ?tv3) rfl (Or.inl ⟨by rfl, ?th3⟩) hHeld ?tr3
    case th3 => (intro w hSw; (try dsimp only at hSw); go_simp; try with_reducible rfl)
    try simp only [Act.put, lst]
    refine wpAnyT_ready (rs := [3]) (by kernel_rfl) (by simp) ?_
    refine AllReadyT.cons rfl (fun K hK => ?_) AllReadyT.nil
    rw [if_pos (by rfl)]
    simp only [lst]
    have hPrev := Lib.hid hHeld
    clear hHeld
    go_simp
    refine (HHD.out _).mono ?_
    rintro e' wa ⟨rfl, hba⟩
    go_simp
    refine hK.out _ _ (⟨hPrev.out.1.trans (hba.mono hPrev.out.1.size), kpc hba hPrev.out.2.1, kpc hba hPrev.out.2.2.1, kpc hba hPrev.out.2.2.2⟩) (fun hHeld => ?_)
    clear hK K hPrev
    try simp only [Act.put, lst]
    refine wpAnyT_ready (rs := [4]) (by kernel_rfl) (by simp) ?_
    refine AllReadyT.cons rfl (fun K hK => ?_) AllReadyT.nil
    rw [if_pos (by rfl)]
    simp only [lst]
    have hPrev := Lib.hid hHeld
    clear hHeld
    go_simp
    refine (HAT.out _ hPrev.out.1).mono ?_
    rintro e' wb ⟨v, rfl, hO5, hbb⟩
    have hO5 := hO5.base (Nat.le_trans H4.out.2.2.2.1.size hPrev.out.1.size)
    obtain ⟨A5, c5, A5', c5', n5, m5, rfl, hn5, hm5, hat5, hO5⟩ := hO5.slices
    have HO5 := Lib.hid hO5
    clear hO5 hat5
    go_simp
    refine hK.out _ _ (⟨hPrev.out.1.trans (hbb.mono hPrev.out.1.size), (hbb.cell (World.block_lt_of_cell? _ _ hPrev.out.2.1)).trans hPrev.out.2.1, (hbb.cell (World.block_lt_of_cell? _ _ hPrev.out.2.2.1)).trans hPrev.out.2.2.1, (hbb.cell (World.block_lt_of_cell? _ _ hPrev.out.2.2.2)).trans hPrev.out.2.2.2⟩) (fun hHeld => ?_)
    clear hK K hPrev
    try simp only [Act.put, lst]
    refine wT (i := 5) (v := ?tv4) rfl (Or.inl ⟨by rfl, ?th4⟩) hHeld ?tr4
    case th4 => (intro w hSw; (try dsimp only at hSw); go_simp; try with_reducible rfl)
    try simp only [Act.put, lst]
    refine wT (i := 6) (v := ?tv5) rfl (Or.inl ⟨by rfl, ?th5⟩) hHeld ?tr5
    case th5 => (intro w hSw; (try dsimp only at hSw); go_simp; try with_reducible rfl)
    try simp only [Act.put, lst]
    refine wP (i := 7) (v := ?tv6) rfl (Or.inl ⟨by rfl, ?th6⟩) hHeld ?tr6
    case th6 => (intro w hSw; clear hSw; go_simp; try with_reducible rfl)
    try simp only [Act.put, lst]
    refine wP (i := 8) (v := ?tv7) rfl (Or.inl ⟨by rfl, ?th7⟩) hHeld ?tr7
    case th7 => (intro w hSw; clear hSw; go_simp; try with_reducible rfl)
    try simp only [Act.put, lst]
    refine wpAnyT_ready (rs := [9]) (by kernel_rfl) (by simp) ?_
    refine AllReadyT.late rfl (by kernel_rfl) (fun K hK => ?_) AllReadyT.nil
    rw [if_pos (by rfl)]
    simp only [lst]
    have hB7 := hHeld.1
    have hp7 := H4.out.2.2.1.below hB7 H4.out.2.2.1.lt
    have z0 := hp7.cells 0 _ rfl
    have z1 := hp7.cells 1 _ rfl
    simp only [List.getElem_toArray, List.getElem_cons_zero, List.getElem_cons_succ] at z0 z1
    have zf := hp7.frozen
    have zl := hp7.lt
    have hx7 := H4.out.1.below hB7 H4.out.1.lt
    have y7 := plat_set hp7 (.slice A5 n5 c5) (.slice A5' m5 c5')
    have x7 := (hx7.far (p := ⟨w3.heap.size, 0, none⟩) (by have := H4.out.2.2.2.2.2; show w.heap.size ≠ w3.heap.size; omega) (.slice A5 n5 c5)).far (p := ⟨w3.heap.size, 1, none⟩) (by have := H4.out.2.2.2.2.2; show w.heap.size ≠ w3.heap.size; omega) (.slice A5' m5 c5')
    have b7 : Below w.heap.size w ((wb.setCell ⟨w3.heap.size, 0, none⟩ (.slice A5 n5 c5)).setCell ⟨w3.heap.size, 1, none⟩ (.slice A5' m5 c5')) := ((H4.out.2.2.2.1.trans (hB7.mono H4.out.2.2.2.1.size)).setCell (p := ⟨w3.heap.size, 0, none⟩) (by have := H4.out.2.2.2.2.2; show w.heap.size ≤ w3.heap.size; omega) _).setCell (p := ⟨w3.heap.size, 1, none⟩) (by have := H4.out.2.2.2.2.2; show w.heap.size ≤ w3.heap.size; omega) _
    have o7 : PlatOut ((wb.setCell ⟨w3.heap.size, 0, none⟩ (.slice A5 n5 c5)).setCell ⟨w3.heap.size, 1, none⟩ (.slice A5' m5 c5')) w.heap.size (.agg #[.slice A5 n5 c5, .slice A5' m5 c5']) Q := (HO5.out.far hp7 (by decide) (by decide) 0 _).far (hp7.set_ 0 _) (by decide) (by decide) 1 _
    have H7 := Lib.hid (And.intro y7 (And.intro x7 (And.intro b7 o7)))
    clear hB7 hp7 hx7 y7 x7 b7 o7 hHeld
    go_simp
    refine hK.out _ _ ?_
    clear hK K
    try simp only [Act.put, lst]
    refine wpAnyT_ready (rs := [10]) (by kernel_rfl) (by simp) ?_
    refine AllReadyT.late rfl (by kernel_rfl) (fun K hK => ?_) AllReadyT.nil
    rw [if_pos (by rfl)]
    simp only [lst]
    go_simp
    refine hK.out _ _ ?_
    clear hK K
    try simp only [Act.put, lst]
    refine wpAnyT_done (by kernel_rfl) ?_
    generalize (wb.setCell ⟨w3.heap.size, 0, none⟩ (.slice A5 n5 c5)).setCell ⟨w3.heap.size, 1, none⟩ (.slice A5' m5 c5') = w7 at *
    have t0 := H7.out.1.cells 0 _ rfl
    have t1 := H7.out.1.cells 1 _ rfl
    have x0 := H7.out.2.1.cells 0 _ rfl
    have x1 := H7.out.2.1.cells 1 _ rfl
    have xf := H7.out.2.1.frozen
    have xl := H7.out.2.1.lt
    simp only [List.getElem_toArray, List.getElem_cons_zero, List.getElem_cons_succ] at t0 t1 x0 x1
    have y9 := plat_set H7.out.2.1 (.slice A5 n5 c5) (.slice A5' m5 c5')
    have b9 : Below w.heap.size w ((w7.setCell ⟨w.heap.size, 0, none⟩ (.slice A5 n5 c5)).setCell ⟨w.heap.size, 1, none⟩ (.slice A5' m5 c5')) := (H7.out.2.2.1.setCell (p := ⟨w.heap.size, 0, none⟩) (Nat.le_refl _) _).setCell (p := ⟨w.heap.size, 1, none⟩) (Nat.le_refl _) _
    have o9 := (H7.out.2.2.2.far H7.out.2.1 (by decide) (by decide) 0 (.slice A5 n5 c5)).far (H7.out.2.1.set_ 0 _) (by decide) (by decide) 1 (.slice A5' m5 c5')
    have H9 := Lib.hid (And.intro y9 (And.intro b9 o9))
    clear y9 b9 o9 H7 H4 p0 p1 u1
    go_wp2_with (with_reducible refine end_at ?_)
    obtain ⟨y9, b9, o9⟩ := H9.out
    have hld := plat_load y9
    generalize (w7.setCell ⟨w.heap.size, 0, none⟩ (.slice A5 n5 c5)).setCell ⟨w.heap.size, 1, none⟩ (.slice A5' m5 c5') = W9 at *
    refine end_ret (v := .tuple #[.agg #[.slice A5 n5 c5, .slice A5' m5 c5'], .int .i64 qe]) (by simp [results, Tryz.results15, asAddr, hld]) rfl ?_
    rw [← HR.out]
    exact ⟨_, rfl, o9, b9⟩
end Go.Proofs.YtpkomloblhbkiaaGreatDoor
namespace Go.Proofs.YtpkomloblhbkiaaGreatDoor
open Go.RowKit
/-- the boxes that such a deed has -/
def DeedOk (w : World) (cb ib sb N a i : Nat) (x : Value) (y : Value) (z : Value) (s : ByteArray) : Prop :=
  Hid (∀ W, Below w.heap.size w W → Blk W cb 71 #[.int .i64 N, .int .i64 a, x, y, z] ∧ Blk W ib 3 #[.int .i64 i] ∧ Blk W sb 9 #[.string s])
set_option maxRecDepth 100000 in
set_option maxHeartbeats 2000000 in
theorem deed_any (p : Plat) (cb ib sb N a i : Nat) (x y z : Value) (s : ByteArray) (A A' : Option Addr) (n m c d : Nat) (w : World) (hP : PlatAt w w.heap.size A n A' m p) (hD : DeedOk w cb ib sb N a i x y z s) (hN : N ≤ 64) (ha : a ≤ 1) (hi : i ≤ 64) :
    Calls Tryz.prog 92 #[.agg #[.slice A n c, .slice A' m d], .pointer (some ⟨cb, 0, none⟩), .pointer (some ⟨ib, 0, none⟩), .pointer (some ⟨sb, 0, none⟩)] w (Out2P w (writeF p (sectorN N (1 - a) i : Nat) s)) := by
  have HP := hP.pre
  have HB0 : Hid (Below w.heap.size w ((w.alloc (.cells #[.slice A n c, .slice A' m d] 42)).alloc (.cells #[.slice none 0 0, .slice none 0 0] 42))) := Lib.hid (by go_grown)
  have HX0 : Hid (Blk ((w.alloc (.cells #[.slice A n c, .slice A' m d] 42)).alloc (.cells #[.slice none 0 0, .slice none 0 0] 42)) w.heap.size 42 #[.slice A n c, .slice A' m d] ∧ Blk ((w.alloc (.cells #[.slice A n c, .slice A' m d] 42)).alloc (.cells #[.slice none 0 0, .slice none 0 0] 42)) (w.heap.size + 1) 42 #[.slice none 0 0, .slice none 0 0]) := Lib.hid ⟨(Blk.new _ _ _).alloc _, Blk.new_at (by simp) _ _⟩
  have HSC := Lib.hid (fun W => sector_any N (1 - a) i a W hN (by omega) hi)
  have HWR := Lib.hid (fun W (hW : Below w.heap.size w W) => write_any p (sectorN N (1 - a) i : Nat) s A A' n m c d W (HP.step hW))
  obtain ⟨⟨Q, qe⟩, hQ⟩ : ∃ V, writeF p (sectorN N (1 - a) i : Nat) s = V := ⟨_, rfl⟩
  rw [hQ] at HWR ⊢
  unfold Out2P at HWR ⊢
  unfold sectorN at HWR
  dsimp only at HWR ⊢
  have i1 : IntKind.i64.wrap (1 - (a : Int)) = ((1 - a : Nat) : Int) := by
    have h : a = 0 ∨ a = 1 := by omega
    rcases h with rfl | rfl <;> decide
  have i2 : (1 - (a : Int)) = ((1 - a : Nat) : Int) := by omega
  clear hP hQ HP
  obtain ⟨b, hb⟩ : ∃ b, 1 - a = b := ⟨_, rfl⟩
  rw [hb] at HSC HWR i1 i2
  have i3 : IntKind.i64.wrap (b : Int) = (b : Int) := IntWalk.i64_in _ (by omega)
  clear hb
  go_enter Tryz.func92, Tryz.ntmps92
  go_upto_region 1 with fail
  generalize ((w.alloc (.cells #[.slice A n c, .slice A' m d] 42)).alloc (.cells #[.slice none 0 0, .slice none 0 0] 42)) = w0 at *
  obtain ⟨hc0, hi0, hs0⟩ := hD.out w0 HB0.out
  have p0 := HX0.out.1.cells 0 _ rfl
  have p1 := HX0.out.1.cells 1 _ rfl
  have c0 := hc0.cells 0 _ rfl
  have c1 := hc0.cells 1 _ rfl
  have j0 := hi0.cells 0 _ rfl
  have s0 := hs0.cells 0 _ rfl
  simp only [List.getElem_toArray, List.getElem_cons_zero, List.getElem_cons_succ] at p0 p1 c0 c1 j0 s0
  clear hc0 hi0 hs0
  refine wp_region_T [13, 14] (fun W => Below w0.heap.size w0 W ∧ W.cell? ⟨w.heap.size, 0, none⟩ = some (.slice A n c) ∧ W.cell? ⟨w.heap.size, 1, none⟩ = some (.slice A' m d) ∧ W.cell? ⟨cb, 0, none⟩ = some (.int .i64 N) ∧ W.cell? ⟨cb, 1, none⟩ = some (.int .i64 a) ∧ W.cell? ⟨ib, 0, none⟩ = some (.int .i64 i) ∧ W.cell? ⟨sb, 0, none⟩ = some (.string s)) (by kernel_rfl) ?_
  have hHeld : (fun W => Below w0.heap.size w0 W ∧ W.cell? ⟨w.heap.size, 0, none⟩ = some (.slice A n c) ∧ W.cell? ⟨w.heap.size, 1, none⟩ = some (.slice A' m d) ∧ W.cell? ⟨cb, 0, none⟩ = some (.int .i64 N) ∧ W.cell? ⟨cb, 1, none⟩ = some (.int .i64 a) ∧ W.cell? ⟨ib, 0, none⟩ = some (.int .i64 i) ∧ W.cell? ⟨sb, 0, none⟩ = some (.string s)) _ := ⟨(Below.refl _ _).drew, p0, p1, c0, c1, j0, s0⟩
  refine wT (i := 0) (v := ?tv1) rfl (Or.inl ⟨by rfl, ?th1⟩) hHeld ?tr1
  case th1 => (intro w hSw; (try dsimp only at hSw); go_simp; try with_reducible rfl)
  try simp only [Act.put, lst]
  refine wT (i := 1) (v := ?tv2) rfl (Or.inl ⟨by rfl, ?th2⟩) hHeld ?tr2
  case th2 => (intro w hSw; (try dsimp only at hSw); go_simp; try with_reducible rfl)
  try simp only [Act.put, lst]
  refine wT (i := 2) (v := ?tv3) rfl (Or.inl ⟨by rfl, ?th3⟩) hHeld ?tr3
  case th3 => (intro w hSw; (try dsimp only at hSw); go_simp; try with_reducible rfl)
  try simp only [Act.put, lst]
  refine wT (i := 3) (v := ?tv4) rfl (Or.inl ⟨by rfl, ?th4⟩) hHeld ?tr4
  case th4 => (intro w hSw; (try dsimp only at hSw); go_simp; try with_reducible rfl)
  try simp only [Act.put, lst]
  refine wT (i := 4) (v := ?tv5) rfl (Or.inl ⟨by rfl, ?th5⟩) hHeld ?tr5
  case th5 => (intro w hSw; (try dsimp only at hSw); go_simp; try with_reducible rfl)
  try simp only [Act.put, lst]
  refine wT (i := 5) (v := ?tv6) rfl (Or.inl ⟨by rfl, ?th6⟩) hHeld ?tr6
  case th6 => (intro w hSw; (try dsimp only at hSw); go_simp; try with_reducible rfl)
  try simp only [Act.put, lst]
  refine wT (i := 6) (v := ?tv7) rfl (Or.inl ⟨by rfl, ?th7⟩) hHeld ?tr7
  case th7 => (intro w hSw; (try dsimp only at hSw); go_simp; try with_reducible rfl)
  try simp only [Act.put, lst]
  refine wT (i := 7) (v := ?tv8) rfl (Or.inl ⟨by rfl, ?th8⟩) hHeld ?tr8
  case th8 => (intro w hSw; (try dsimp only at hSw); go_simp; try with_reducible rfl)
  try simp only [Act.put, lst]
  refine wT (i := 9) (v := ?tv9) rfl (Or.inl ⟨by rfl, ?th9⟩) hHeld ?tr9
  case th9 => (intro w hSw; (try dsimp only at hSw); go_simp; try with_reducible rfl)
  try simp only [Act.put, lst]
  refine wpAnyT_ready (rs := [8]) (by kernel_rfl) (by simp) ?_
  refine AllReadyT.cons rfl (fun K hK => ?_) AllReadyT.nil
  rw [if_pos (by rfl)]
  simp only [lst]
  have hPrev := Lib.hid hHeld
  clear hHeld
  go_simp
  refine (HSC.out _).mono ?_
  rintro e' wa ⟨rfl, hba⟩
  go_simp
  refine hK.out _ _ (⟨hPrev.out.1.trans (hba.mono hPrev.out.1.size), kpc hba hPrev.out.2.1, kpc hba hPrev.out.2.2.1, kpc hba hPrev.out.2.2.2.1, kpc hba hPrev.out.2.2.2.2.1, kpc hba hPrev.out.2.2.2.2.2.1, kpc hba hPrev.out.2.2.2.2.2.2⟩) (fun hHeld => ?_)
  clear hK K hPrev
  try simp only [Act.put, lst]
  refine wpAnyT_ready (rs := [10]) (by kernel_rfl) (by simp) ?_
  refine AllReadyT.cons rfl (fun K hK => ?_) AllReadyT.nil
  rw [if_pos (by rfl)]
  simp only [lst]
  have hPrev := Lib.hid hHeld
  clear hHeld
  go_simp
  refine (HWR.out _ (HB0.out.trans (hPrev.out.1.mono HB0.out.size))).mono ?_
  rintro e' wb ⟨v, rfl, hO5, hbb⟩
  have hO5 := hO5.base (Nat.le_trans HB0.out.size hPrev.out.1.size)
  obtain ⟨A5, c5, A5', c5', n5, m5, rfl, hn5, hm5, hat5, hO5⟩ := hO5.slices
  have HO5 := Lib.hid hO5
  clear hO5 hat5
  go_simp
  refine hK.out _ _ (⟨hPrev.out.1.trans (hbb.mono hPrev.out.1.size), (hbb.cell (World.block_lt_of_cell? _ _ hPrev.out.2.1)).trans hPrev.out.2.1, (hbb.cell (World.block_lt_of_cell? _ _ hPrev.out.2.2.1)).trans hPrev.out.2.2.1, (hbb.cell (World.block_lt_of_cell? _ _ hPrev.out.2.2.2.1)).trans hPrev.out.2.2.2.1, (hbb.cell (World.block_lt_of_cell? _ _ hPrev.out.2.2.2.2.1)).trans hPrev.out.2.2.2.2.1, (hbb.cell (World.block_lt_of_cell? _ _ hPrev.out.2.2.2.2.2.1)).trans hPrev.out.2.2.2.2.2.1, (hbb.cell (World.block_lt_of_cell? _ _ hPrev.out.2.2.2.2.2.2)).trans hPrev.out.2.2.2.2.2.2⟩) (fun hHeld => ?_)
  clear hK K hPrev
  try simp only [Act.put, lst]
  refine wT (i := 11) (v := ?tv10) rfl (Or.inl ⟨by rfl, ?th10⟩) hHeld ?tr10
  case th10 => (intro w hSw; (try dsimp only at hSw); go_simp; try with_reducible rfl)
  try simp only [Act.put, lst]
  refine wP (i := 12) (v := ?tv11) rfl (Or.inl ⟨by rfl, ?th11⟩) hHeld ?tr11
  case th11 => (intro w hSw; clear hSw; go_simp; try with_reducible rfl)
  try simp only [Act.put, lst]
  refine wpAnyT_ready (rs := [13]) (by kernel_rfl) (by simp) ?_
  refine AllReadyT.late rfl (by kernel_rfl) (fun K hK => ?_) AllReadyT.nil
  rw [if_pos (by rfl)]
  simp only [lst]
  have hB7 := hHeld.1
  have hx7 := HX0.out.2.below hB7 HX0.out.2.lt
  have z0 := hx7.cells 0 _ rfl
  have z1 := hx7.cells 1 _ rfl
  simp only [List.getElem_toArray, List.getElem_cons_zero, List.getElem_cons_succ] at z0 z1
  have zf := hx7.frozen
  have zl := hx7.lt
  have y7 := plat_set hx7 (.slice A5 n5 c5) (.slice A5' m5 c5')
  have b7 : Below w.heap.size w ((wb.setCell ⟨w.heap.size + 1, 0, none⟩ (.slice A5 n5 c5)).setCell ⟨w.heap.size + 1, 1, none⟩ (.slice A5' m5 c5')) := ((HB0.out.trans (hB7.mono HB0.out.size)).setCell (p := ⟨w.heap.size + 1, 0, none⟩) (Nat.le_succ _) _).setCell (p := ⟨w.heap.size + 1, 1, none⟩) (Nat.le_succ _) _
  have o7 : PlatOut ((wb.setCell ⟨w.heap.size + 1, 0, none⟩ (.slice A5 n5 c5)).setCell ⟨w.heap.size + 1, 1, none⟩ (.slice A5' m5 c5')) w.heap.size (.agg #[.slice A5 n5 c5, .slice A5' m5 c5']) Q := (HO5.out.far hx7 (by decide) (by decide) 0 _).far (hx7.set_ 0 _) (by decide) (by decide) 1 _
  have H7 := Lib.hid (And.intro y7 (And.intro b7 o7))
  clear hB7 hx7 y7 b7 o7 hHeld
  go_simp
  refine hK.out _ _ ?_
  clear hK K
  try simp only [Act.put, lst]
  refine wpAnyT_ready (rs := [14]) (by kernel_rfl) (by simp) ?_
  refine AllReadyT.late rfl (by kernel_rfl) (fun K hK => ?_) AllReadyT.nil
  rw [if_pos (by rfl)]
  simp only [lst]
  go_simp
  refine hK.out _ _ ?_
  clear hK K
  try simp only [Act.put, lst]
  refine wpAnyT_done (by kernel_rfl) ?_
  go_wp2_with (with_reducible refine end_at ?_)
  obtain ⟨y9, b9, o9⟩ := H7.out
  have hld := plat_load y9
  generalize (wb.setCell ⟨w.heap.size + 1, 0, none⟩ (.slice A5 n5 c5)).setCell ⟨w.heap.size + 1, 1, none⟩ (.slice A5' m5 c5') = W9 at *
  refine end_ret (v := .tuple #[.agg #[.slice A5 n5 c5, .slice A5' m5 c5'], .int .i64 qe]) (by simp [results, Tryz.results92, asAddr, hld]) rfl ?_
  exact ⟨_, rfl, o9, b9⟩
end Go.Proofs.YtpkomloblhbkiaaGreatDoor
