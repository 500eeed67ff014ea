/- top26: a new house. -/
import Derived.Test.YtpkomloblhbkiaaGreatDoorTopB
import Derived.Test.YtpkomloblhbkiaaGreatDoorVauG
import Derived.BigRegion
set_option linter.unusedVariables false
set_option linter.unusedSimpArgs false
namespace Go.Proofs.YtpkomloblhbkiaaGreatDoor
open Go.RowKit
/-- two rows do not lie in one block -/
def Away (a b : Value) : Prop := ∀ k, a.ownBlock = some k → b.ownBlock ≠ some k
/-- a House at block g, its rows its own, from B on -/
def HouseAt (w : World) (B g : Nat) (p q : Plat) (s : Src) (key : ByteArray) (said drawn : List ByteArray) : Prop :=
  ∃ P1 P2 Q1 Q2 sv dv, Blk w g 46 (houseC P1 P2 Q1 Q2 s key sv dv) ∧ PlatOut w B (.agg #[P1, P2]) p ∧ PlatOut w B (.agg #[Q1, Q2]) q ∧ SRow w B sv said ∧ SRow w B dv drawn ∧ Away dv P1 ∧ Away dv Q1 ∧ Away dv sv
theorem new_read {n : Nat} (hn : 1 ≤ n) (h2 : n ≤ 200) {o : Int} (h0 : 0 ≤ o) (h1 : o < n) : readF (newF (n : Int)).1 o = (ByteArray.empty, 0) := by
  have hnew : (newF (n : Int)).1 = ⟨List.replicate n ByteArray.empty, []⟩ := by
    unfold newF
    rw [if_pos (by omega)]
    rfl
  have hc : checkP ⟨List.replicate n ByteArray.empty, []⟩ = true := by
    refine (checkP_iff _).2 ⟨by simp; omega, by simp; omega, by simp, ?_, by simp⟩
    intro s hs
    rw [(List.mem_replicate.1 hs).2]
    exact Nat.zero_le _
  rw [hnew, readF_ok hc, if_pos ((hasB_iff _ _).2 ⟨h0, by simpa using h1⟩)]
  rw [readOf_bare]
  simp only [List.getD_eq_getElem?_getD]
  rw [List.getElem?_replicate]
  split <;> rfl
theorem count_nat {n : Int} (h : countI n = true) : ∃ k : Nat, n = k ∧ 1 ≤ k ∧ k ≤ 64 ∧ mayB k = true := by
  have h1 : 1 ≤ n ∧ n ≤ 64 := by
    simp only [countI, Bool.and_eq_true, decide_eq_true_eq] at h
    exact ⟨h.1, h.2.1⟩
  obtain ⟨k, rfl⟩ : ∃ k : Nat, n = k := ⟨n.toNat, by omega⟩
  exact ⟨k, rfl, by omega, by omega, (count_may h).1⟩
theorem format_lies {n : Nat} (h : countI (n : Int) = true) : (vformP (n : Int)).2 = 0 ∧ Lies (vformP (n : Int)).1 n 0 0 (formatV (n : Int)).1 ∧ Whole (formatV (n : Int)).1 n ∧ ∀ key, Tells key (formatV (n : Int)).1 (List.replicate n ByteArray.empty) := by
  obtain ⟨hr, _⟩ := form_root h
  obtain ⟨hm, h1, h64⟩ := count_may h
  have hf : formatV (n : Int) = (⟨List.replicate n ByteArray.empty, rootV (List.replicate n ByteArray.empty)⟩, 0) := by
    unfold formatV; rw [if_pos h]; rfl
  have hl : (3 + 2 * (n : Int)) = ((3 + 2 * n : Nat) : Int) := by omega
  have hrd : ∀ o : Int, 0 ≤ o → o < ((3 + 2 * n : Nat) : Int) → readF (newF ((3 + 2 * n : Nat) : Int)).1 o = (ByteArray.empty, 0) := fun o a b => new_read (by omega) (by omega) a b
  have hc0 : (newF ((3 + 2 * n : Nat) : Int)).1.cache = [] ∧ (newF ((3 + 2 * n : Nat) : Int)).1.sectors.length = 3 + 2 * n := by
    unfold newF
    rw [if_pos (by omega)]
    exact ⟨rfl, by simp; omega⟩
  have hg : getF (newF ((3 + 2 * n : Nat) : Int)).1 0 = (⟨#[]⟩, false, 0) := by
    unfold getF
    rw [hrd 0 (by omega) (by omega), if_pos rfl, if_pos (by show ByteArray.empty.toList = []; rw [ByteArray.toList_eq]; rfl)]
  have hz : (getF (newF ((3 + 2 * n : Nat) : Int)).1 0).2.2 = 0 := by rw [hg]
  have hs : (vheadB 0 0 (formatV (n : Int)).1.root).size ≤ 128 := by rw [vhead_size hr]; omega
  have hfit := put_fits (i := 0) (s := vheadB 0 0 (formatV (n : Int)).1.root) hc0.1 hz (by rw [hc0.2]; omega) hs (-1)
  have hw := put_whole hfit rfl
  have e4 : ∀ s, putF (newF ((3 + 2 * n : Nat) : Int)).1 0 s (-1) = putF (newF ((3 + 2 * n : Nat) : Int)).1 0 s 4 := fun s => by rw [putF_do hz, putF_do hz]; rfl
  have hfit4 := hfit
  rw [e4] at hfit4
  obtain ⟨k1, k2, k3⟩ := put_back hfit4
  rw [← e4] at k2 k3
  have hvf : vformP (n : Int) = ((putF (newF ((3 + 2 * n : Nat) : Int)).1 0 (vheadB 0 0 (formatV (n : Int)).1.root) (-1)).1, 0) := by
    unfold vformP
    rw [if_pos h, hl, hfit]
  obtain ⟨a, dn, er, hP⟩ : ∃ a dn er, putF (newF ((3 + 2 * n : Nat) : Int)).1 0 (vheadB 0 0 (formatV (n : Int)).1.root) (-1) = (a, dn, er) := ⟨_, _, _, rfl⟩
  rw [hP] at hw hfit k2 k3 hvf
  dsimp only at hw hfit k2 k3 hvf
  subst hw hfit
  obtain ⟨c1, c2, _⟩ := put_clean hP
  have hchk : checkP a = true := (read_pos (get_read (p := a) (i := 0) (by rw [k2]))).1
  have hvol : volB (formatV (n : Int)).1 = true := by
    refine (volB_iff _).2 ⟨?_, hr, ?_⟩
    · rw [hf]; simpa using h
    · intro b hb
      rw [hf] at hb
      rw [(List.mem_replicate.1 hb).2]
      exact Nat.zero_le _
  have hlen : (formatV (n : Int)).1.blocks.length = n := by rw [hf]; simp
  have hrt : rootedB (formatV (n : Int)).1 = true := by
    unfold rootedB
    rw [hlen, hm, hf]
    simp
  have hbd : ∀ i, (formatV (n : Int)).1.blocks.getD i ByteArray.empty = ByteArray.empty := fun i => by
    rw [hf, List.getD_eq_getElem?_getD, List.getElem?_replicate]
    split <;> rfl
  rw [hvf]
  refine ⟨rfl, ⟨hchk, c1, by rw [c2, hc0.2], by omega, by omega, k2, ?_, hvol, hlen, hrt⟩, ⟨hvol, hrt, hlen⟩, fun key => ⟨by rw [hlen]; simp, ?_⟩⟩
  · intro i hi
    have := sector_lt (n := n) (b := 0) (k := i) (by omega) hi
    have h3 := sector_ge n 0 i
    rw [k3 _ (by omega) (by omega) (by omega), hrd _ (by omega) (by omega), hbd]
  · intro i hi
    rw [List.length_replicate] at hi
    rw [hbd]
    have hp : placeI (i : Int) = true := by simp [placeI]; omega
    have h9 : (List.replicate n ByteArray.empty).getD i ByteArray.empty = ByteArray.empty := by
      rw [List.getD_eq_getElem?_getD, List.getElem?_replicate]
      split <;> rfl
    rw [h9]
    exact show_none key hp
set_option maxRecDepth 100000 in
set_option maxHeartbeats 4000000 in
theorem thouse_any (n : Int) (key : ByteArray) (w : World) (hE : Env w) :
    Calls Tryz.prog 5 #[.int .i64 n, .string key] w fun e w' => ∃ g, e = .returned (.tuple #[.pointer (some ⟨g, 0, none⟩), .bool (countI n)]) ∧ w.heap.size ≤ g ∧ HouseAt w' w.heap.size g (vformP n).1 P33 ⟨0, 0, 0⟩ key (List.replicate (max 0 (min n 64)).toNat ByteArray.empty) [] ∧ Below w.heap.size w w' := by
  have HF := Lib.hid (fun W (hW : Below w.heap.size w W) => vaform_any n W (hE.below hW))
  have HN := Lib.hid (fun W => new_any 3 W)
  rw [ngood_new] at HN
  have HO0 := ngood_open ngood_start (by omega)
  obtain ⟨p, hp⟩ : ∃ p, vformP n = p := ⟨_, rfl⟩
  have hpe : p.2 = if countI n = true then 0 else 1 := by
    rw [← hp]
    cases hc : countI n
    · unfold vformP; rw [if_neg (by rw [hc]; decide), if_neg (by decide)]
    · obtain ⟨k, rfl, _⟩ := count_nat hc
      rw [(format_lies hc).1, if_pos rfl]
  obtain ⟨pp, pe⟩ := p
  dsimp only at hpe
  rw [hp] at HF ⊢
  obtain ⟨b, hb⟩ : ∃ b, countI n = b := ⟨_, rfl⟩
  rw [hb] at hpe ⊢
  obtain ⟨m, hm⟩ : ∃ m : Nat, max 0 (min n 64) = (m : Int) := ⟨(max 0 (min n 64)).toNat, by omega⟩
  have hm64 : m ≤ 64 := by omega
  rw [show (max 0 (min n 64)).toNat = m by omega]
  have HPE := Lib.hid hpe
  clear hE hp hb hpe
  unfold Out2P at HF HN
  dsimp only at HF HN
  go_enter Tryz.func5, Tryz.ntmps5
  go_wp2_with fail
  refine (HF.out _ (Below.refl _ _)).mono ?_
  rintro e w1 ⟨v1, rfl, hO1, hb1⟩
  obtain ⟨A1, c1, A1', c1', n1, m1, rfl, hn1, hm1, hat1, hO1⟩ := hO1.slices
  have hX1 := Blk.new w1 42 #[.slice A1 n1 c1, .slice A1' m1 c1']
  have H1 := Lib.hid (And.intro hX1 (And.intro (hO1.on_ ((Below.refl w1.heap.size w1).alloc (Nat.le_refl _) (.cells #[.slice A1 n1 c1, .slice A1' m1 c1'] 42))) (hb1.alloc hb1.size (.cells #[.slice A1 n1 c1, .slice A1' m1 c1'] 42))))
  have hz1 : w1.heap.size < (w1.alloc (.cells #[.slice A1 n1 c1, .slice A1' m1 c1'] 42)).heap.size := by simp
  clear hX1 hO1 hb1 hat1 hn1 hm1
  go_upto_region 2 with fail
  generalize w1.alloc (.cells #[.slice A1 n1 c1, .slice A1' m1 c1'] 42) = w2 at *
  obtain ⟨x1, hx1⟩ : ∃ x1, w1.heap.size = x1 := ⟨_, rfl⟩
  rw [hx1] at H1 hz1 ⊢
  clear hx1
  go_wp2_with fail
  refine (HN.out _).mono ?_
  rintro e w3 ⟨v3, rfl, hO3, hb3⟩
  have hO3 := hO3.base (B' := w.heap.size) H1.out.2.2.size
  obtain ⟨A3, c3, A3', c3', n3, m3, rfl, hn3, hm3, hat3, hO3⟩ := hO3.slices
  have hb4 : Below w3.heap.size w3 (w3.alloc (.cells #[.slice A3 n3 c3, .slice A3' m3 c3'] 42)) := (Below.refl w3.heap.size w3).alloc (Nat.le_refl _) _
  have H3 := Lib.hid (And.intro ((H1.out.1.below hb3 hz1).alloc (.cells #[.slice A3 n3 c3, .slice A3' m3 c3'] 42)) (And.intro (Blk.new w3 42 #[.slice A3 n3 c3, .slice A3' m3 c3']) (And.intro ((H1.out.2.1.on_ hb3).on_ hb4) (And.intro (hO3.on_ hb4) ((H1.out.2.2.trans (hb3.mono H1.out.2.2.size)).alloc (Nat.le_trans H1.out.2.2.size hb3.size) (.cells #[.slice A3 n3 c3, .slice A3' m3 c3'] 42))))))
  have hat4 := hat3.grow hb4
  have hz3 : w3.heap.size < (w3.alloc (.cells #[.slice A3 n3 c3, .slice A3' m3 c3'] 42)).heap.size := by simp
  have hz13 : x1 < w3.heap.size := Nat.lt_of_lt_of_le hz1 hb3.size
  have HZ := Lib.hid (And.intro hz3 hz13)
  clear hb3 hb4 hO3 hat3 hn3 hm3 H1 hz1 hz3 hz13
  go_upto_region 3 with fail
  generalize w3.alloc (.cells #[.slice A3 n3 c3, .slice A3' m3 c3'] 42) = w4 at *
  obtain ⟨x3, hx3⟩ : ∃ x3, w3.heap.size = x3 := ⟨_, rfl⟩
  rw [hx3] at H3 HZ ⊢
  clear hx3
  have HNO := Lib.hid (nopen_any P33 0 A3 A3' n3 m3 c3 c3' w4 hat4)
  rw [HO0] at HNO
  unfold srcV at HNO
  dsimp only at HNO
  have y0 := H3.out.2.1.cells 0 _ rfl
  have y1 := H3.out.2.1.cells 1 _ rfl
  simp only [List.getElem_toArray, List.getElem_cons_zero, List.getElem_cons_succ] at y0 y1
  clear hat4
  go_wp2_with fail
  refine HNO.out.mono ?_
  rintro e w5 ⟨rfl, hb5⟩
  have hb6 : Below w4.heap.size w4 (w5.alloc (.cells #[.int .i64 0, .int .i64 0, .int .i64 0] 44)) := hb5.alloc hb5.size _
  have H5 := Lib.hid (And.intro (H3.out.1.below hb6 H3.out.1.lt) (And.intro (H3.out.2.1.below hb6 H3.out.2.1.lt) (And.intro (H3.out.2.2.1.on_ hb6) (And.intro (H3.out.2.2.2.1.on_ hb6) (And.intro (H3.out.2.2.2.2.trans (hb6.mono H3.out.2.2.2.2.size)) (Blk.new w5 44 #[.int .i64 0, .int .i64 0, .int .i64 0]))))))
  clear hb5 hb6 H3 HNO y0 y1
  go_upto_region 4 with fail
  generalize w5.alloc (.cells #[.int .i64 0, .int .i64 0, .int .i64 0] 44) = w6 at *
  obtain ⟨x5, hx5⟩ : ∃ x5, w5.heap.size = x5 := ⟨_, rfl⟩
  rw [hx5] at H5 ⊢
  clear hx5
  have y0 := H5.out.1.cells 0 _ rfl
  have y1 := H5.out.1.cells 1 _ rfl
  have y2 := H5.out.2.1.cells 0 _ rfl
  have y3 := H5.out.2.1.cells 1 _ rfl
  have y4 := H5.out.2.2.2.2.2.cells 0 _ rfl
  have y5 := H5.out.2.2.2.2.2.cells 1 _ rfl
  have y6 := H5.out.2.2.2.2.2.cells 2 _ rfl
  simp only [List.getElem_toArray, List.getElem_cons_zero, List.getElem_cons_succ] at y0 y1 y2 y3 y4 y5 y6
  obtain ⟨i0, hi0, hz0, hz1, hz2⟩ := info_parts str_info
  have hmk := fun W => run_make_rowN (P := Tryz.prog) 30 9 i0 _ Tryz.underlying30 hi0 hz0 .i64 .i64 m m (Nat.le_refl _) (by rw [hz2]; omega) (by omega) W
  simp only [hz1, Nat.mul_one, Value.cells] at hmk
  have HO := Lib.hid (fun W (hW : w.heap.size ≤ W.heap.size) => own_made (w := W) (B := w.heap.size) m hW (by simp only [maxLen]; omega))
  generalize hmc : madeCells #[.string ByteArray.empty] m = mc at hmk HO
  have HM := Lib.hid hm
  clear hmc hz0 hz1 hz2 hi0
  cases b
  · obtain rfl : pe = 1 := HPE.out
    refine wp_region_T [20, 21] (fun W => Below w6.heap.size w6 W ∧ W.cell? ⟨x1, 0, none⟩ = some (.slice A1 n1 c1) ∧ W.cell? ⟨x1, 1, none⟩ = some (.slice A1' m1 c1') ∧ W.cell? ⟨x3, 0, none⟩ = some (.slice A3 n3 c3) ∧ W.cell? ⟨x3, 1, none⟩ = some (.slice A3' m3 c3') ∧ W.cell? ⟨x5, 0, none⟩ = some (.int .i64 0) ∧ W.cell? ⟨x5, 1, none⟩ = some (.int .i64 0) ∧ W.cell? ⟨x5, 2, none⟩ = some (.int .i64 0)) (by kernel_rfl) ?_
    have hHeld : (fun W => Below w6.heap.size w6 W ∧ W.cell? ⟨x1, 0, none⟩ = some (.slice A1 n1 c1) ∧ W.cell? ⟨x1, 1, none⟩ = some (.slice A1' m1 c1') ∧ W.cell? ⟨x3, 0, none⟩ = some (.slice A3 n3 c3) ∧ W.cell? ⟨x3, 1, none⟩ = some (.slice A3' m3 c3') ∧ W.cell? ⟨x5, 0, none⟩ = some (.int .i64 0) ∧ W.cell? ⟨x5, 1, none⟩ = some (.int .i64 0) ∧ W.cell? ⟨x5, 2, none⟩ = some (.int .i64 0)) _ := ⟨(Below.refl _ _).drew, y0, y1, y2, y3, y4, y5, y6⟩
    refine wT (i := 0) (v := ?tv1) rfl (Or.inl ⟨by rfl, ?th1⟩) hHeld ?tr1
    case th1 => (intro w hSw; (try dsimp only at hSw); go_simp; try with_reducible rfl)
    try simp only [Act.put, lst]
    refine wT (i := 1) (v := ?tv2) rfl (Or.inl ⟨by rfl, ?th2⟩) hHeld ?tr2
    case th2 => (intro w hSw; (try dsimp only at hSw); go_simp; try with_reducible rfl)
    try simp only [Act.put, lst]
    refine wT (i := 2) (v := ?tv3) rfl (Or.inl ⟨by rfl, ?th3⟩) hHeld ?tr3
    case th3 => (intro w hSw; (try dsimp only at hSw); go_simp; try with_reducible rfl)
    try simp only [Act.put, lst]
    refine wT (i := 3) (v := ?tv4) rfl (Or.inl ⟨by rfl, ?th4⟩) hHeld ?tr4
    case th4 => (intro w hSw; (try dsimp only at hSw); go_simp; try with_reducible rfl)
    try simp only [Act.put, lst]
    refine wT (i := 4) (v := ?tv5) rfl (Or.inl ⟨by rfl, ?th5⟩) hHeld ?tr5
    case th5 => (intro w hSw; (try dsimp only at hSw); go_simp; try with_reducible rfl)
    try simp only [Act.put, lst]
    refine wT (i := 5) (v := ?tv6) rfl (Or.inl ⟨by rfl, ?th6⟩) hHeld ?tr6
    case th6 => (intro w hSw; (try dsimp only at hSw); go_simp; try with_reducible rfl)
    try simp only [Act.put, lst]
    refine wT (i := 6) (v := ?tv7) rfl (Or.inl ⟨by rfl, ?th7⟩) hHeld ?tr7
    case th7 => (intro w hSw; (try dsimp only at hSw); go_simp; try with_reducible rfl)
    try simp only [Act.put, lst]
    refine wP (i := 10) (v := ?tv8) rfl (Or.inl ⟨by rfl, ?th8⟩) hHeld ?tr8
    case th8 => (intro w hSw; clear hSw; go_simp; try with_reducible rfl)
    try simp only [Act.put, lst]
    refine wP (i := 11) (v := ?tv9) rfl (Or.inl ⟨by rfl, ?th9⟩) hHeld ?tr9
    case th9 => (intro w hSw; clear hSw; go_simp; try with_reducible rfl)
    try simp only [Act.put, lst]
    refine wP (i := 12) (v := ?tv10) rfl (Or.inl ⟨by rfl, ?th10⟩) hHeld ?tr10
    case th10 => (intro w hSw; clear hSw; go_simp; try with_reducible rfl)
    try simp only [Act.put, lst]
    refine wP (i := 13) (v := undef) rfl (Or.inr ⟨by rfl, rfl⟩) hHeld ?tr11
    try simp only [Act.put, lst]
    refine wP (i := 14) (v := undef) rfl (Or.inr ⟨by rfl, rfl⟩) hHeld ?tr12
    try simp only [Act.put, lst]
    refine wP (i := 15) (v := ?tv13) rfl (Or.inl ⟨by rfl, ?th13⟩) hHeld ?tr13
    case th13 => (intro w hSw; clear hSw; go_simp; try with_reducible rfl)
    try simp only [Act.put, lst]
    refine wP (i := 16) (v := ?tv14) rfl (Or.inl ⟨by rfl, ?th14⟩) hHeld ?tr14
    case th14 => (intro w hSw; clear hSw; go_simp; try with_reducible rfl)
    try simp only [Act.put, lst]
    refine wP (i := 17) (v := undef) rfl (Or.inr ⟨by rfl, rfl⟩) hHeld ?tr15
    try simp only [Act.put, lst]
    refine wP (i := 18) (v := undef) rfl (Or.inr ⟨by rfl, rfl⟩) hHeld ?tr16
    try simp only [Act.put, lst]
    refine wP (i := 19) (v := ?tv17) rfl (Or.inl ⟨by rfl, ?th17⟩) hHeld ?tr17
    case th17 => (intro w hSw; clear hSw; go_simp; try with_reducible rfl)
    try simp only [Act.put, lst]
    refine wpAnyT_ready (rs := [7]) (by kernel_rfl) (by simp) ?_
    refine AllReadyT.cons rfl (fun K hK => ?_) AllReadyT.nil
    rw [if_pos (by rfl)]
    simp only [lst]
    have hPrev := Lib.hid hHeld
    clear hHeld
    go_simp
    have hba := (Below.refl w6.drew.heap.size w6.drew).alloc (Nat.le_refl _) (.cells mc 9)
    have hbs := Nat.le_trans H5.out.2.2.2.2.1.size hPrev.out.1.size
    have HM7 := Lib.hid (World.ownsRow.drew (HO.out w6 H5.out.2.2.2.2.1.size))
    go_simp
    refine hK.out _ _ (⟨hPrev.out.1.trans (hba.mono hPrev.out.1.size), kpc hba hPrev.out.2.1, kpc hba hPrev.out.2.2.1, kpc hba hPrev.out.2.2.2.1, kpc hba hPrev.out.2.2.2.2.1, kpc hba hPrev.out.2.2.2.2.2.1, kpc hba hPrev.out.2.2.2.2.2.2.1, kpc hba hPrev.out.2.2.2.2.2.2.2⟩) (fun hHeld => ?_)
    clear hK K hPrev
    try simp only [Act.put, lst]
    have hB7 : Below w6.heap.size w6 (w6.alloc (.cells mc 9)).drew := hHeld.1
    generalize (w6.alloc (.cells mc 9)).drew = w7 at *
    refine wT (i := 8) (v := ?tv18) rfl (Or.inl ⟨by rfl, ?th18⟩) hHeld ?tr18
    case th18 => (intro w hSw; (try dsimp only at hSw); go_simp; try with_reducible rfl)
    try simp only [Act.put, lst]
    refine wpAnyT_ready (rs := [9]) (by kernel_rfl) (by simp) ?_
    refine AllReadyT.cons rfl (fun K hK => ?_) AllReadyT.nil
    rw [if_pos (by rfl)]
    simp only [lst]
    have hPrev := Lib.hid hHeld
    clear hHeld
    go_simp
    have hba := (Below.refl w7.heap.size w7).alloc (Nat.le_refl _) (.cells #[.slice A1 n1 c1, .slice A1' m1 c1', .slice A3 n3 c3, .slice A3' m3 c3', .int .i64 0, .int .i64 0, .int .i64 0, .string key, .slice (some ⟨w6.heap.size, 0, none⟩) m m, .slice none 0 0] 46)
    go_simp
    refine hK.out _ _ (⟨hPrev.out.1.trans (hba.mono hPrev.out.1.size), kpc hba hPrev.out.2.1, kpc hba hPrev.out.2.2.1, kpc hba hPrev.out.2.2.2.1, kpc hba hPrev.out.2.2.2.2.1, kpc hba hPrev.out.2.2.2.2.2.1, kpc hba hPrev.out.2.2.2.2.2.2.1, kpc hba hPrev.out.2.2.2.2.2.2.2⟩) (fun hHeld => ?_)
    clear hK K hPrev
    try simp only [Act.put, lst]
    refine wpAnyT_ready (rs := [20]) (by kernel_rfl) (by simp) ?_
    refine AllReadyT.late rfl (by kernel_rfl) (fun K hK => ?_) AllReadyT.nil
    rw [if_pos (by rfl)]
    simp only [lst]
    go_simp
    refine hK.out _ _ ?_
    clear hK K
    try simp only [Act.put, lst]
    refine wpAnyT_ready (rs := [21]) (by kernel_rfl) (by simp) ?_
    refine AllReadyT.late rfl (by kernel_rfl) (fun K hK => ?_) AllReadyT.nil
    rw [if_pos (by rfl)]
    simp only [lst]
    go_simp
    refine hK.out _ _ ?_
    clear hK K
    try simp only [Act.put, lst]
    refine wpAnyT_done (by kernel_rfl) ?_
    have hB9 := (H5.out.2.2.2.2.1.trans (hB7.mono H5.out.2.2.2.2.1.size))
    have ho1 := (H5.out.2.2.1.on_ hB7).on_ hba
    have ho3 := (H5.out.2.2.2.1.on_ hB7).on_ hba
    have hsm : SRow (w7.alloc (.cells #[.slice A1 n1 c1, .slice A1' m1 c1', .slice A3 n3 c3, .slice A3' m3 c3', .int .i64 0, .int .i64 0, .int .i64 0, .string key, .slice (some ⟨w6.heap.size, 0, none⟩) m m, .slice none 0 0] 46)) w.heap.size (.slice (some ⟨w6.heap.size, 0, none⟩) m m) (List.replicate m ByteArray.empty) := orow_alloc (orow_join HM7.out _ List.length_replicate.symm rfl) _
    have HZ9 := Lib.hid (And.intro hB9 (And.intro ho1 (And.intro ho3 hsm)))
    clear hB9 ho1 ho3 hsm hHeld hB7 y0 y1 y2 y3 y4 y5 y6 hmk
    go_wp2_with fail
    refine bodyPost_ret (results_tmp2 rfl _ _ _) rfl ?_
    obtain ⟨hB9, ho1, ho3, hsm⟩ := HZ9.out
    exact ⟨w7.heap.size, rfl, hB9.size, ⟨_, _, _, _, _, _, Blk.new w7 _ _, ho1, ho3, hsm, srow_nil _ _, fun k hk => by simp [Value.ownBlock] at hk, fun k hk => by simp [Value.ownBlock] at hk, fun k hk => by simp [Value.ownBlock] at hk⟩, hB9.alloc hB9.size _⟩
  · obtain rfl : pe = 0 := HPE.out
    refine wp_region_T [20, 21] (fun W => Below w6.heap.size w6 W ∧ W.cell? ⟨x1, 0, none⟩ = some (.slice A1 n1 c1) ∧ W.cell? ⟨x1, 1, none⟩ = some (.slice A1' m1 c1') ∧ W.cell? ⟨x3, 0, none⟩ = some (.slice A3 n3 c3) ∧ W.cell? ⟨x3, 1, none⟩ = some (.slice A3' m3 c3') ∧ W.cell? ⟨x5, 0, none⟩ = some (.int .i64 0) ∧ W.cell? ⟨x5, 1, none⟩ = some (.int .i64 0) ∧ W.cell? ⟨x5, 2, none⟩ = some (.int .i64 0)) (by kernel_rfl) ?_
    have hHeld : (fun W => Below w6.heap.size w6 W ∧ W.cell? ⟨x1, 0, none⟩ = some (.slice A1 n1 c1) ∧ W.cell? ⟨x1, 1, none⟩ = some (.slice A1' m1 c1') ∧ W.cell? ⟨x3, 0, none⟩ = some (.slice A3 n3 c3) ∧ W.cell? ⟨x3, 1, none⟩ = some (.slice A3' m3 c3') ∧ W.cell? ⟨x5, 0, none⟩ = some (.int .i64 0) ∧ W.cell? ⟨x5, 1, none⟩ = some (.int .i64 0) ∧ W.cell? ⟨x5, 2, none⟩ = some (.int .i64 0)) _ := ⟨(Below.refl _ _).drew, y0, y1, y2, y3, y4, y5, y6⟩
    refine wT (i := 0) (v := ?tv19) rfl (Or.inl ⟨by rfl, ?th19⟩) hHeld ?tr19
    case th19 => (intro w hSw; (try dsimp only at hSw); go_simp; try with_reducible rfl)
    try simp only [Act.put, lst]
    refine wT (i := 1) (v := ?tv20) rfl (Or.inl ⟨by rfl, ?th20⟩) hHeld ?tr20
    case th20 => (intro w hSw; (try dsimp only at hSw); go_simp; try with_reducible rfl)
    try simp only [Act.put, lst]
    refine wT (i := 2) (v := ?tv21) rfl (Or.inl ⟨by rfl, ?th21⟩) hHeld ?tr21
    case th21 => (intro w hSw; (try dsimp only at hSw); go_simp; try with_reducible rfl)
    try simp only [Act.put, lst]
    refine wT (i := 3) (v := ?tv22) rfl (Or.inl ⟨by rfl, ?th22⟩) hHeld ?tr22
    case th22 => (intro w hSw; (try dsimp only at hSw); go_simp; try with_reducible rfl)
    try simp only [Act.put, lst]
    refine wT (i := 4) (v := ?tv23) rfl (Or.inl ⟨by rfl, ?th23⟩) hHeld ?tr23
    case th23 => (intro w hSw; (try dsimp only at hSw); go_simp; try with_reducible rfl)
    try simp only [Act.put, lst]
    refine wT (i := 5) (v := ?tv24) rfl (Or.inl ⟨by rfl, ?th24⟩) hHeld ?tr24
    case th24 => (intro w hSw; (try dsimp only at hSw); go_simp; try with_reducible rfl)
    try simp only [Act.put, lst]
    refine wT (i := 6) (v := ?tv25) rfl (Or.inl ⟨by rfl, ?th25⟩) hHeld ?tr25
    case th25 => (intro w hSw; (try dsimp only at hSw); go_simp; try with_reducible rfl)
    try simp only [Act.put, lst]
    refine wP (i := 10) (v := ?tv26) rfl (Or.inl ⟨by rfl, ?th26⟩) hHeld ?tr26
    case th26 => (intro w hSw; clear hSw; go_simp; try with_reducible rfl)
    try simp only [Act.put, lst]
    refine wP (i := 11) (v := ?tv27) rfl (Or.inl ⟨by rfl, ?th27⟩) hHeld ?tr27
    case th27 => (intro w hSw; clear hSw; go_simp; try with_reducible rfl)
    try simp only [Act.put, lst]
    refine wP (i := 12) (v := ?tv28) rfl (Or.inl ⟨by rfl, ?th28⟩) hHeld ?tr28
    case th28 => (intro w hSw; clear hSw; go_simp; try with_reducible rfl)
    try simp only [Act.put, lst]
    refine wP (i := 13) (v := ?tv29) rfl (Or.inl ⟨by rfl, ?th29⟩) hHeld ?tr29
    case th29 => (intro w hSw; clear hSw; go_simp; try with_reducible rfl)
    try simp only [Act.put, lst]
    refine wP (i := 14) (v := ?tv30) rfl (Or.inl ⟨by rfl, ?th30⟩) hHeld ?tr30
    case th30 => (intro w hSw; clear hSw; go_simp; try with_reducible rfl)
    try simp only [Act.put, lst]
    refine wP (i := 15) (v := ?tv31) rfl (Or.inl ⟨by rfl, ?th31⟩) hHeld ?tr31
    case th31 => (intro w hSw; clear hSw; go_simp; try with_reducible rfl)
    try simp only [Act.put, lst]
    refine wP (i := 16) (v := ?tv32) rfl (Or.inl ⟨by rfl, ?th32⟩) hHeld ?tr32
    case th32 => (intro w hSw; clear hSw; go_simp; try with_reducible rfl)
    try simp only [Act.put, lst]
    refine wP (i := 17) (v := ?tv33) rfl (Or.inl ⟨by rfl, ?th33⟩) hHeld ?tr33
    case th33 => (intro w hSw; clear hSw; go_simp; try with_reducible rfl)
    try simp only [Act.put, lst]
    refine wP (i := 18) (v := ?tv34) rfl (Or.inl ⟨by rfl, ?th34⟩) hHeld ?tr34
    case th34 => (intro w hSw; clear hSw; go_simp; try with_reducible rfl)
    try simp only [Act.put, lst]
    refine wP (i := 19) (v := ?tv35) rfl (Or.inl ⟨by rfl, ?th35⟩) hHeld ?tr35
    case th35 => (intro w hSw; clear hSw; go_simp; try with_reducible rfl)
    try simp only [Act.put, lst]
    refine wpAnyT_ready (rs := [7]) (by kernel_rfl) (by simp) ?_
    refine AllReadyT.cons rfl (fun K hK => ?_) AllReadyT.nil
    rw [if_pos (by rfl)]
    simp only [lst]
    have hPrev := Lib.hid hHeld
    clear hHeld
    go_simp
    have hba := (Below.refl w6.drew.heap.size w6.drew).alloc (Nat.le_refl _) (.cells mc 9)
    have hbs := Nat.le_trans H5.out.2.2.2.2.1.size hPrev.out.1.size
    have HM7 := Lib.hid (World.ownsRow.drew (HO.out w6 H5.out.2.2.2.2.1.size))
    go_simp
    refine hK.out _ _ (⟨hPrev.out.1.trans (hba.mono hPrev.out.1.size), kpc hba hPrev.out.2.1, kpc hba hPrev.out.2.2.1, kpc hba hPrev.out.2.2.2.1, kpc hba hPrev.out.2.2.2.2.1, kpc hba hPrev.out.2.2.2.2.2.1, kpc hba hPrev.out.2.2.2.2.2.2.1, kpc hba hPrev.out.2.2.2.2.2.2.2⟩) (fun hHeld => ?_)
    clear hK K hPrev
    try simp only [Act.put, lst]
    have hB7 : Below w6.heap.size w6 (w6.alloc (.cells mc 9)).drew := hHeld.1
    generalize (w6.alloc (.cells mc 9)).drew = w7 at *
    refine wT (i := 8) (v := ?tv36) rfl (Or.inl ⟨by rfl, ?th36⟩) hHeld ?tr36
    case th36 => (intro w hSw; (try dsimp only at hSw); go_simp; try with_reducible rfl)
    try simp only [Act.put, lst]
    refine wpAnyT_ready (rs := [9]) (by kernel_rfl) (by simp) ?_
    refine AllReadyT.cons rfl (fun K hK => ?_) AllReadyT.nil
    rw [if_pos (by rfl)]
    simp only [lst]
    have hPrev := Lib.hid hHeld
    clear hHeld
    go_simp
    have hba := (Below.refl w7.heap.size w7).alloc (Nat.le_refl _) (.cells #[.slice A1 n1 c1, .slice A1' m1 c1', .slice A3 n3 c3, .slice A3' m3 c3', .int .i64 0, .int .i64 0, .int .i64 0, .string key, .slice (some ⟨w6.heap.size, 0, none⟩) m m, .slice none 0 0] 46)
    go_simp
    refine hK.out _ _ (⟨hPrev.out.1.trans (hba.mono hPrev.out.1.size), kpc hba hPrev.out.2.1, kpc hba hPrev.out.2.2.1, kpc hba hPrev.out.2.2.2.1, kpc hba hPrev.out.2.2.2.2.1, kpc hba hPrev.out.2.2.2.2.2.1, kpc hba hPrev.out.2.2.2.2.2.2.1, kpc hba hPrev.out.2.2.2.2.2.2.2⟩) (fun hHeld => ?_)
    clear hK K hPrev
    try simp only [Act.put, lst]
    refine wpAnyT_ready (rs := [20]) (by kernel_rfl) (by simp) ?_
    refine AllReadyT.late rfl (by kernel_rfl) (fun K hK => ?_) AllReadyT.nil
    rw [if_pos (by rfl)]
    simp only [lst]
    go_simp
    refine hK.out _ _ ?_
    clear hK K
    try simp only [Act.put, lst]
    refine wpAnyT_ready (rs := [21]) (by kernel_rfl) (by simp) ?_
    refine AllReadyT.late rfl (by kernel_rfl) (fun K hK => ?_) AllReadyT.nil
    rw [if_pos (by rfl)]
    simp only [lst]
    go_simp
    refine hK.out _ _ ?_
    clear hK K
    try simp only [Act.put, lst]
    refine wpAnyT_done (by kernel_rfl) ?_
    have hB9 := (H5.out.2.2.2.2.1.trans (hB7.mono H5.out.2.2.2.2.1.size))
    have ho1 := (H5.out.2.2.1.on_ hB7).on_ hba
    have ho3 := (H5.out.2.2.2.1.on_ hB7).on_ hba
    have hsm : SRow (w7.alloc (.cells #[.slice A1 n1 c1, .slice A1' m1 c1', .slice A3 n3 c3, .slice A3' m3 c3', .int .i64 0, .int .i64 0, .int .i64 0, .string key, .slice (some ⟨w6.heap.size, 0, none⟩) m m, .slice none 0 0] 46)) w.heap.size (.slice (some ⟨w6.heap.size, 0, none⟩) m m) (List.replicate m ByteArray.empty) := orow_alloc (orow_join HM7.out _ List.length_replicate.symm rfl) _
    have HZ9 := Lib.hid (And.intro hB9 (And.intro ho1 (And.intro ho3 hsm)))
    clear hB9 ho1 ho3 hsm hHeld hB7 y0 y1 y2 y3 y4 y5 y6 hmk
    go_wp2_with fail
    refine bodyPost_ret (results_tmp2 rfl _ _ _) rfl ?_
    obtain ⟨hB9, ho1, ho3, hsm⟩ := HZ9.out
    exact ⟨w7.heap.size, rfl, hB9.size, ⟨_, _, _, _, _, _, Blk.new w7 _ _, ho1, ho3, hsm, srow_nil _ _, fun k hk => by simp [Value.ownBlock] at hk, fun k hk => by simp [Value.ownBlock] at hk, fun k hk => by simp [Value.ownBlock] at hk⟩, hB9.alloc hB9.size _⟩
end Go.Proofs.YtpkomloblhbkiaaGreatDoor
