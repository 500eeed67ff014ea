/- top26: a script's steps; is a script more than is looked at? -/
import Derived.Test.YtpkomloblhbkiaaGreatDoorVolE
import Derived.Test.YtpkomloblhbkiaaGreatDoorORow
import Derived.BigRegion
set_option linter.unusedVariables false
set_option linter.unusedSimpArgs false
/- top, plain: two rows of one root; nonces of a bare disk; what a vault tells. -/
namespace Go.Proofs.YtpkomloblhbkiaaGreatDoor
open Go.RowKit
/-- a bare disk of three sectors, on which 16 r nonces are reserved -/
def NGood (p : Plat) (r : Nat) : Prop := p.cache = [] ∧ p.sectors.length = 3 ∧ ∃ x ok, getF p 0 = (x, ok, 0) ∧ ((ok = false ∧ r = 0) ∨ (ok = true ∧ x = digB (16 * r)))
theorem ngood_len {p : Plat} {r : Nat} (h : NGood p r) : p.sectors.length = 3 ∧ p.cache.length = 0 := ⟨h.2.1, by rw [h.1]; rfl⟩
theorem ngood_open {p : Plat} {r : Nat} (h : NGood p r) (hr : r < 104) : openN p 0 = (⟨0, ((16 * r : Nat) : Int), ((16 * r : Nat) : Int)⟩, 0) := by
  obtain ⟨_, _, x, ok, hg, hc⟩ := h
  unfold openN
  rw [hg]
  rcases hc with ⟨rfl, rfl⟩ | ⟨rfl, rfl⟩
  · simp
  · simp [(dig_16 hr).1]
def P33 : Plat := (newF 3).1
theorem ngood_new : newF 3 = (P33, 0) := by kernel_rfl
theorem ngood_start : NGood P33 0 := ⟨by kernel_rfl, by kernel_rfl, ⟨#[]⟩, false, by kernel_rfl, .inl ⟨rfl, rfl⟩⟩
theorem ngood_crash {p : Plat} {r : Nat} (h : NGood p r) (F : List Int) : crashF p F = (p, 0) := by
  obtain ⟨h1, _, x, ok, hg, _⟩ := h
  have hz : (getF p 0).2.2 = 0 := by rw [hg]
  obtain ⟨hc, _⟩ := read_pos (get_read hz)
  exact crash_bare hc h1 F
theorem put_whole {p : Plat} {i : Int} {s : ByteArray} {most : Int} (h : (putF p i s most).2.2 = 0) (hm : mostN most = 4) : (putF p i s most).2.1 = true := by
  have hg := put_get h
  rw [putF_do hg] at h ⊢
  rw [hm] at h ⊢
  unfold doN at h ⊢
  split
  · rfl
  · rename_i hx
    rw [if_neg hx] at h
    exact absurd h hx
theorem ngood_next {p : Plat} {r nx : Nat} (h : NGood p r) (hr : r < 103) (hn : nx ≤ 16 * r) :
    ∃ (a : Plat) (r' : Nat), nextN p ⟨0, (nx : Int), ((16 * r : Nat) : Int)⟩ (-1) = (nonB nx, ⟨0, ((nx + 1 : Nat) : Int), ((16 * r' : Nat) : Int)⟩, a, 0) ∧ NGood a r' ∧ nx + 1 ≤ 16 * r' ∧ r' ≤ r + 1 := by
  have hr0 : rightB (nx : Int) ((16 * r : Nat) : Int) = true := by rw [right_iff]; omega
  by_cases hlt : nx < 16 * r
  · refine ⟨p, r, ?_, h, by omega, by omega⟩
    unfold nextN
    rw [if_neg (by dsimp only; rw [hr0]; simp), if_pos (by dsimp only; omega)]
    dsimp only
    rw [Int.toNat_natCast, Int.natCast_add]
    rfl
  · obtain rfl : nx = 16 * r := by omega
    obtain ⟨h1, h2, x, ok, hg, hc⟩ := h
    have hz : (getF p 0).2.2 = 0 := by rw [hg]
    obtain ⟨d1, d2⟩ := dig_16 (show r + 1 < 104 by omega)
    have hf := put_fits (i := 0) (s := digB (16 * (r + 1))) h1 hz (by rw [h2]; decide) (by omega) (-1)
    have et : (((16 * r : Nat) : Int)).toNat + 16 = 16 * (r + 1) := by omega
    have hw := put_whole hf rfl
    obtain ⟨a, dn, er, hP⟩ : ∃ a dn er, putF p 0 (digB (16 * (r + 1))) (-1) = (a, dn, er) := ⟨_, _, _, rfl⟩
    rw [hP] at hf hw
    dsimp only at hf hw
    subst hf hw
    obtain ⟨c1, c2, c3⟩ := put_clean hP
    refine ⟨a, r + 1, ?_, ⟨c1, by rw [c2, h2], _, _, c3, .inr ⟨rfl, rfl⟩⟩, by omega, by omega⟩
    unfold nextN
    rw [if_neg (by dsimp only; rw [hr0]; simp), if_neg (by simp), if_neg (by dsimp only; omega)]
    dsimp only
    rw [et, hP]
    dsimp only
    have e1 : ((16 * r + 1 : Nat) : Int) = ((16 * r : Nat) : Int) + 1 := by omega
    have e2 : ((16 * (r + 1) : Nat) : Int) = ((16 * r : Nat) : Int) + 16 := by omega
    rw [if_neg (by simp), if_neg (by simp), e1, e2, Int.toNat_natCast]
/-- a volume, right in itself -/
structure Whole (v : Vol) (n : Nat) : Prop where
  vol : volB v = true
  rt : rootedB v = true
  len : v.blocks.length = n
theorem Whole.fit {v : Vol} {n : Nat} (h : Whole v n) (t : Bool) : fitV v t = if t = false then 1 else 0 := by
  have hr := h.rt
  simp only [rootedB, Bool.and_eq_true, decide_eq_true_eq] at hr
  unfold fitV
  rw [if_neg (by rw [h.vol]; decide), if_pos hr.2]
/-- the texts that a volume tells -/
def Tells (key : ByteArray) (v : Vol) (said : List ByteArray) : Prop := said.length = v.blocks.length ∧ ∀ i, i < said.length → showV key (i : Int) (v.blocks.getD i ByteArray.empty) = (said.getD i ByteArray.empty, 0)
theorem getD_set_same {L : List ByteArray} {k : Nat} (h : k < L.length) (s : ByteArray) : (L.set k s).getD k ByteArray.empty = s := by
  rw [List.getD_eq_getElem?_getD, List.getElem?_set_self h]; rfl
theorem getD_set_other {L : List ByteArray} {k i : Nat} (h : k ≠ i) (s : ByteArray) : (L.set k s).getD i ByteArray.empty = L.getD i ByteArray.empty := by
  rw [List.getD_eq_getElem?_getD, List.getElem?_set_ne h, List.getD_eq_getElem?_getD]
theorem write_may {v : Vol} {n k : Nat} {key nonce s : ByteArray} {said : List ByteArray} (h : Whole v n) (ht : Tells key v said) (hkey : key.size = 32) (hnon : nonce.size = 12) (hk : k < n) (hs : s.size ≤ 64) :
    ∃ u, writeV v key nonce (k : Int) s = (u, 0) ∧ Whole u n ∧ Tells key u (said.set k s) ∧ 12 ≤ (u.blocks.getD k ByteArray.empty).size ∧ (u.blocks.getD k ByteArray.empty).extract 0 12 = nonce := by
  have hv := (volB_iff v).1 h.vol
  obtain ⟨hm, h1, h64⟩ := count_may hv.1
  have hl := h.len
  have hf : fitV v (hasI v.blocks.length (k : Int)) = 0 := by
    rw [h.fit, if_neg]
    simp [hasI]; omega
  have hp : placeI (k : Int) = true := by simp [placeI]; omega
  have hz := hide_fits hp hs hkey hnon
  refine ⟨⟨v.blocks.set k (hideV key nonce k s).1, rootV (v.blocks.set k (hideV key nonce k s).1)⟩, ?_, ⟨?_, ?_, ?_⟩, ⟨?_, ?_⟩, ?_, ?_⟩
  · unfold writeV
    rw [if_pos hf, if_pos hz]
    simp
  · refine (volB_iff _).2 ⟨by simpa using hv.1, ?_, ?_⟩
    · refine root_size (by simpa using hm) ?_
      intro t ht
      rcases List.mem_or_eq_of_mem_set ht with h2 | rfl
      · have := hv.2.2 t h2; omega
      · have := hide_place hz; omega
    · intro t ht
      rcases List.mem_or_eq_of_mem_set ht with h2 | rfl
      · exact hv.2.2 t h2
      · exact hide_place hz
  · simp only [rootedB, Bool.and_eq_true, decide_eq_true_eq]
    exact ⟨by simpa using hm, trivial⟩
  · simpa using hl
  · simpa using ht.1
  · intro i hi
    rw [List.length_set] at hi
    dsimp only
    by_cases e : k = i
    · subst e
      rw [getD_set_same (by omega), getD_set_same hi]
      exact show_hide hz
    · rw [getD_set_other e, getD_set_other e]
      exact ht.2 i hi
  · dsimp only
    rw [getD_set_same (by omega), hide_size hz]
    omega
  · dsimp only
    rw [getD_set_same (by omega)]
    exact hide_front hz
theorem write_not {v : Vol} {n : Nat} {i : Int} {key nonce s : ByteArray} (h : Whole v n) (hno : ¬ (0 ≤ i ∧ i < n ∧ s.size ≤ 64)) : (writeV v key nonce i s).2 ≠ 0 := by
  unfold writeV
  rw [h.fit]
  have hl := h.len
  by_cases hh : hasI v.blocks.length i = false
  · rw [if_pos hh]; simp
  · rw [if_neg hh, if_pos rfl]
    have h2 : 0 ≤ i ∧ i < n := by simpa [hasI, hl] using hh
    have h64 := (count_may ((volB_iff v).1 h.vol).1).2.2
    have : (hideV key nonce i s).2 ≠ 0 := by
      unfold hideV
      have hp : placeI i = true := by simp [placeI]; omega
      rw [if_neg (by rw [hp]; decide), if_pos (by omega)]
      decide
    rw [if_neg this]
    exact this
theorem reads_told {v : Vol} {n k : Nat} {key : ByteArray} {said : List ByteArray} (h : Whole v n) (ht : Tells key v said) (hk : k < n) : readV v key (k : Int) = (said.getD k ByteArray.empty, 0) := by
  have hl := h.len
  have hs := ht.1
  have hf : fitV v (hasI v.blocks.length (k : Int)) = 0 := by
    rw [h.fit, if_neg]
    simp [hasI]; omega
  unfold readV
  rw [if_pos hf, Int.toNat_natCast]
  exact ht.2 k (by omega)
end Go.Proofs.YtpkomloblhbkiaaGreatDoor
/- top26: what a vault has. -/
namespace Go.Proofs.YtpkomloblhbkiaaGreatDoor
open Go.RowKit
/-- the cells of a House -/
def houseC (p p' q q' : Value) (s : Src) (key : ByteArray) (said drawn : Value) : Array Value := #[p, p', q, q', .int .i64 s.pos, .int .i64 s.next, .int .i64 s.limit, .string key, said, drawn]
theorem ext_upto {T L : List ByteArray} {n : Nat} (hT : T.length = n) (hL : L.length = n) (h : ∀ j, j < n → T.getD j ByteArray.empty = L.getD j ByteArray.empty) : T = L := by
  apply List.ext_getElem (hT.trans hL.symm)
  intro i h1 h2
  have := h i (by omega)
  rw [List.getD_eq_getElem?_getD, List.getD_eq_getElem?_getD, List.getElem?_eq_getElem h1, List.getElem?_eq_getElem h2] at this
  exact this
set_option maxRecDepth 100000 in
set_option maxHeartbeats 4000000 in
theorem treads_any (p : Plat) (v : Vol) (gen n : Nat) (key : ByteArray) (T said : List ByteArray) (g : Nat) (A A' As : Option Addr) (nS mS c c' ks cs : Nat) (q q' sd dr : Value) (s : Src) (w : World)
    (hg : Blk w g 46 (houseC (.slice A nS c) (.slice A' mS c') q q' s key sd dr)) (hP : PlatAt w w.heap.size A nS A' mS p) (hS : nS ≤ 1000) (hO : loadP p = (v, gen, 0)) (hv : Whole v n) (hT : Tells key v T)
    (hL : SlR encS 1 w w.heap.size As ks said) (hn : ks = n) (hE : Env w) :
    Calls Tryz.prog 24 #[.pointer (some ⟨g, 0, none⟩), .slice As ks cs] w fun e w' => e = .returned (.bool (decide (T = said))) ∧ Below w.heap.size w w' := by
  subst hn
  have HP := hP.pre
  have hvb := (volB_iff v).1 hv.vol
  obtain ⟨hm, hn1, hn64⟩ := count_may hvb.1
  rw [hv.len] at hn1 hn64
  have HLO := Lib.hid (fun W (hW : Below w.heap.size w W) => load_any p A A' nS mS c c' W (HP.step hW) (by omega) (hE.below hW))
  rw [hO] at HLO
  dsimp only at HLO
  have HW := Lib.hid hv
  have HT := Lib.hid hT
  have HG := Lib.hid hg
  have HEN := Lib.hid hE
  have hsl := hL.1
  have HSL := Lib.hid hsl
  have HTL := Lib.hid (hT.1.trans hv.len)
  rcases hL.2 with h0 | ⟨b, off, rfl, hb, hC⟩
  · omega
  have HC := Lib.hid hC
  have HVS : Hid ((∀ s ∈ v.blocks, s.size ≤ 140737488351232) ∧ v.root.size ≤ 140737488351232 ∧ v.blocks.length = ks) := Lib.hid ⟨fun s hs => by have := hvb.2.2 s hs; omega, by have := hvb.2.1; omega, hv.len⟩
  have p0 := hg.cells 0 _ rfl
  have p1 := hg.cells 1 _ rfl
  simp only [houseC, List.getElem_toArray, List.getElem_cons_zero, List.getElem_cons_succ] at p0 p1
  have HBB := Lib.hid hb
  clear hP hO hv hT hL hE hC hsl hg hvb hm hb HP
  go_enter Tryz.func24, Tryz.ntmps24
  go_wp2_with fail
  refine (HLO.out _ (Below.refl _ _)).mono ?_
  rintro e w1 ⟨v1, rfl, ⟨A1, c1, rfl, hr1⟩, hb1⟩
  have HG1 := Lib.hid ((HG.out.below hb1 HG.out.lt).alloc (.cells #[.slice A1 v.blocks.length c1, .string v.root] 36))
  have HV1 : Hid (Blk (w1.alloc (.cells #[.slice A1 v.blocks.length c1, .string v.root] 36)) w1.heap.size 36 #[.slice A1 v.blocks.length c1, .string v.root]) := Lib.hid (Blk.new _ _ _)
  have HB1 : Hid (Below w.heap.size w (w1.alloc (.cells #[.slice A1 v.blocks.length c1, .string v.root] 36))) := Lib.hid (hb1.alloc hb1.size _)
  have HR1 : Hid (SlR encS 1 (w1.alloc (.cells #[.slice A1 v.blocks.length c1, .string v.root] 36)) w1.heap.size A1 v.blocks.length v.blocks) := Lib.hid ((srow_slr hr1.out rfl).below ((Below.refl w1.heap.size w1).alloc (Nat.le_refl _) _))
  have hx1 : w1.heap.size < (w1.alloc (.cells #[.slice A1 v.blocks.length c1, .string v.root] 36)).heap.size := by simp
  rw [HVS.out.2.2] at HG1 HV1 HB1 HR1 hx1 ⊢
  clear hb1 hr1 p0 p1
  go_upto_region 2 with fail
  generalize w1.alloc (.cells #[.slice A1 ks c1, .string v.root] 36) = w2 at *
  obtain ⟨x1, hx1e⟩ : ∃ x1, w1.heap.size = x1 := ⟨_, rfl⟩
  rw [hx1e] at HV1 HR1 hx1 ⊢
  have HX1 := Lib.hid hx1
  clear hx1e hx1
  go_wp2_with fail
  go_loopw [8] (fun iv wr => ∃ i : Nat, i ≤ ks ∧ iv = .int .i64 i ∧ Hid (∀ j, j < i → T.getD j ByteArray.empty = said.getD j ByteArray.empty) ∧ Hid (Below w2.heap.size w2 wr)) (fun iv _ => ks - (intOf iv).toNat)
  case atStart => exact ⟨0, by omega, rfl, Lib.hid (fun j hj => by omega), Lib.hid (Below.refl _ _)⟩
  case round =>
    obtain ⟨i, hi, rfl, HU, HB⟩ := hrel
    by_cases hlt : i < ks
    · have HGr := Lib.hid (HG1.out.below HB.out HG1.out.lt)
      have HVr := Lib.hid (HV1.out.below HB.out HV1.out.lt)
      have HBr := Lib.hid (HB1.out.trans (HB.out.mono HB1.out.size))
      have hrd := reads_told (v := v) HW.out HT.out hlt
      have HRD := Lib.hid (fun W (hW : Below wr.heap.size wr W) => vread_any v key (i : Int) A1 ks c1 W (((HR1.out.below (HB.out.mono (Nat.le_of_lt HX1.out))).below (hW.mono (Nat.le_trans (Nat.le_of_lt HX1.out) HB.out.size))).more (Nat.le_trans (Nat.le_of_lt HX1.out) (Nat.le_trans HB.out.size hW.size))) HVS.out.1 HVS.out.2.1 (HEN.out.below (HBr.out.trans (hW.mono HBr.out.size))))
      rw [hrd] at HRD
      dsimp only at HRD
      obtain ⟨t, ht⟩ : ∃ t, T.getD i ByteArray.empty = t := ⟨_, rfl⟩
      rw [ht] at HRD
      have hsi : said[i]? = some (said.getD i ByteArray.empty) := by
        rw [List.getD_eq_getElem?_getD, List.getElem?_eq_getElem (by rw [HSL.out]; exact hlt)]; rfl
      obtain ⟨u, hu⟩ : ∃ u, said.getD i ByteArray.empty = u := ⟨_, rfl⟩
      rw [hu] at hsi
      have HTU := Lib.hid (And.intro ht hu)
      have cs0 := HC.out.str hsi
      have cu : wr.cell? ⟨b, off + i, none⟩ = some (.string u) := (HBr.out.cell (p := ⟨b, off + i, none⟩) HBB.out).trans cs0
      have k0 := HGr.out.cells 7 _ rfl
      have v0 := HVr.out.cells 0 _ rfl
      have v1 := HVr.out.cells 1 _ rfl
      simp only [houseC, List.getElem_toArray, List.getElem_cons_zero, List.getElem_cons_succ] at k0 v0 v1
      have hbr : b < wr.heap.size := Nat.lt_of_lt_of_le HBB.out HBr.out.size
      have i0 : (0 : Int) ≤ (i : Int) := by omega
      have i1 : (i : Int) < (ks : Int) := by omega
      clear hrd ht hu hsi cs0
      go_upto_region 5 with fail
      refine wp_region_T [10, 11] (fun W => Below wr.heap.size wr W ∧ W.cell? ⟨x1, 0, none⟩ = some (.slice A1 ks c1) ∧ W.cell? ⟨x1, 1, none⟩ = some (.string v.root) ∧ W.cell? ⟨g, 7, none⟩ = some (.string key)) (by kernel_rfl) ?_
      have hHeld : (fun W => Below wr.heap.size wr W ∧ W.cell? ⟨x1, 0, none⟩ = some (.slice A1 ks c1) ∧ W.cell? ⟨x1, 1, none⟩ = some (.string v.root) ∧ W.cell? ⟨g, 7, none⟩ = some (.string key)) _ := ⟨(Below.refl _ _).drew, v0, v1, k0⟩
      refine wpAnyT_take (i := 0) (v := ?tv1) _ _ _ _ rfl (by kernel_rfl) (by kernel_rfl) (by kernel_rfl) (fun _ _ _ h => h) (by kernel_rfl) (by kernel_rfl) (by kernel_rfl) (Or.inl ⟨by rfl, ?th1⟩) hHeld ?tr1
      case th1 => (intro w hSw; (try dsimp only at hSw); go_simp; try with_reducible rfl)
      try simp only [Act.put, List.getElem_toArray, List.getElem_cons_succ, List.getElem_cons_zero, List.setIfInBounds_toArray, List.set_cons_zero, List.set_cons_succ]
      refine wpAnyT_take (i := 1) (v := ?tv2) _ _ _ _ rfl (by kernel_rfl) (by kernel_rfl) (by kernel_rfl) (fun _ _ _ h => h) (by kernel_rfl) (by kernel_rfl) (by kernel_rfl) (Or.inl ⟨by rfl, ?th2⟩) hHeld ?tr2
      case th2 => (intro w hSw; (try dsimp only at hSw); go_simp; try with_reducible rfl)
      try simp only [Act.put, List.getElem_toArray, List.getElem_cons_succ, List.getElem_cons_zero, List.setIfInBounds_toArray, List.set_cons_zero, List.set_cons_succ]
      refine wpAnyT_take (i := 2) (v := ?tv3) _ _ _ _ rfl (by kernel_rfl) (by kernel_rfl) (by kernel_rfl) (fun _ _ _ h => h) (by kernel_rfl) (by kernel_rfl) (by kernel_rfl) (Or.inl ⟨by rfl, ?th3⟩) hHeld ?tr3
      case th3 => (intro w hSw; (try dsimp only at hSw); go_simp; try with_reducible rfl)
      try simp only [Act.put, List.getElem_toArray, List.getElem_cons_succ, List.getElem_cons_zero, List.setIfInBounds_toArray, List.set_cons_zero, List.set_cons_succ]
      refine wpAnyT_take (i := 3) (v := ?tv4) _ _ _ _ rfl (by kernel_rfl) (by kernel_rfl) (by kernel_rfl) (fun _ _ _ h => h) (by kernel_rfl) (by kernel_rfl) (by kernel_rfl) (Or.inl ⟨by rfl, ?th4⟩) hHeld ?tr4
      case th4 => (intro w hSw; (try dsimp only at hSw); go_simp; try with_reducible rfl)
      try simp only [Act.put, List.getElem_toArray, List.getElem_cons_succ, List.getElem_cons_zero, List.setIfInBounds_toArray, List.set_cons_zero, List.set_cons_succ]
      refine wpAnyT_take (i := 4) (v := ?tv5) _ _ _ _ rfl (by kernel_rfl) (by kernel_rfl) (by kernel_rfl) (fun _ _ _ h => h) (by kernel_rfl) (by kernel_rfl) (by kernel_rfl) (Or.inl ⟨by rfl, ?th5⟩) hHeld ?tr5
      case th5 => (intro w hSw; (try dsimp only at hSw); go_simp; try with_reducible rfl)
      try simp only [Act.put, List.getElem_toArray, List.getElem_cons_succ, List.getElem_cons_zero, List.setIfInBounds_toArray, List.set_cons_zero, List.set_cons_succ]
      refine wpAnyT_take (i := 5) (v := ?tv6) _ _ _ _ rfl (by kernel_rfl) (by kernel_rfl) (by kernel_rfl) (fun _ _ _ h => h) (by kernel_rfl) (by kernel_rfl) (by kernel_rfl) (Or.inl ⟨by rfl, ?th6⟩) hHeld ?tr6
      case th6 => (intro w hSw; (try dsimp only at hSw); go_simp; try with_reducible rfl)
      try simp only [Act.put, List.getElem_toArray, List.getElem_cons_succ, List.getElem_cons_zero, List.setIfInBounds_toArray, List.set_cons_zero, List.set_cons_succ]
      refine wpAnyT_ready (rs := [6]) (by kernel_rfl) (by simp) ?_
      refine AllReadyT.cons rfl (fun K hK => ?_) AllReadyT.nil
      rw [if_pos (by rfl)]
      simp only [List.getElem_toArray, List.getElem_cons_zero, List.getElem_cons_succ]
      have hPrev := Lib.hid hHeld
      clear hHeld
      go_simp
      refine (HRD.out _ hPrev.out.1).mono ?_
      rintro e' wa ⟨rfl, hba⟩
      go_simp
      refine hK.out _ _ (⟨hPrev.out.1.trans (hba.mono hPrev.out.1.size), (hba.cell (World.block_lt_of_cell? _ _ hPrev.out.2.1)).trans hPrev.out.2.1, (hba.cell (World.block_lt_of_cell? _ _ hPrev.out.2.2.1)).trans hPrev.out.2.2.1, (hba.cell (World.block_lt_of_cell? _ _ hPrev.out.2.2.2)).trans hPrev.out.2.2.2⟩) (fun hHeld => ?_)
      clear hK K hPrev
      try simp only [Act.put, List.getElem_toArray, List.getElem_cons_succ, List.getElem_cons_zero, List.setIfInBounds_toArray, List.set_cons_zero, List.set_cons_succ]
      refine wpAnyT_pure (i := 7) (v := ?tv7) _ _ _ _ rfl (by kernel_rfl) (by kernel_rfl) (fun _ _ _ h => h) (by kernel_rfl) (by kernel_rfl) (by kernel_rfl) (Or.inl ⟨by rfl, ?th7⟩) hHeld ?tr7
      case th7 => (intro w hSw; clear hSw; go_simp; try with_reducible rfl)
      try simp only [Act.put, List.getElem_toArray, List.getElem_cons_succ, List.getElem_cons_zero, List.setIfInBounds_toArray, List.set_cons_zero, List.set_cons_succ]
      refine wpAnyT_pure (i := 8) (v := ?tv8) _ _ _ _ rfl (by kernel_rfl) (by kernel_rfl) (fun _ _ _ h => h) (by kernel_rfl) (by kernel_rfl) (by kernel_rfl) (Or.inl ⟨by rfl, ?th8⟩) hHeld ?tr8
      case th8 => (intro w hSw; clear hSw; go_simp; try with_reducible rfl)
      try simp only [Act.put, List.getElem_toArray, List.getElem_cons_succ, List.getElem_cons_zero, List.setIfInBounds_toArray, List.set_cons_zero, List.set_cons_succ]
      refine wpAnyT_pure (i := 9) (v := ?tv9) _ _ _ _ rfl (by kernel_rfl) (by kernel_rfl) (fun _ _ _ h => h) (by kernel_rfl) (by kernel_rfl) (by kernel_rfl) (Or.inl ⟨by rfl, ?th9⟩) hHeld ?tr9
      case th9 => (intro w hSw; clear hSw; go_simp; try with_reducible rfl)
      try simp only [Act.put, List.getElem_toArray, List.getElem_cons_succ, List.getElem_cons_zero, List.setIfInBounds_toArray, List.set_cons_zero, List.set_cons_succ]
      refine wpAnyT_ready (rs := [10]) (by kernel_rfl) (by simp) ?_
      refine AllReadyT.late rfl (by kernel_rfl) (fun K hK => ?_) AllReadyT.nil
      rw [if_pos (by rfl)]
      simp only [List.getElem_toArray, List.getElem_cons_zero, List.getElem_cons_succ]
      go_simp
      refine hK.out _ _ ?_
      clear hK K
      try simp only [Act.put, List.getElem_toArray, List.getElem_cons_succ, List.getElem_cons_zero, List.setIfInBounds_toArray, List.set_cons_zero, List.set_cons_succ]
      refine wpAnyT_ready (rs := [11]) (by kernel_rfl) (by simp) ?_
      refine AllReadyT.late rfl (by kernel_rfl) (fun K hK => ?_) AllReadyT.nil
      rw [if_pos (by rfl)]
      simp only [List.getElem_toArray, List.getElem_cons_zero, List.getElem_cons_succ]
      go_simp
      refine hK.out _ _ ?_
      clear hK K
      try simp only [Act.put, List.getElem_toArray, List.getElem_cons_succ, List.getElem_cons_zero, List.setIfInBounds_toArray, List.set_cons_zero, List.set_cons_succ]
      refine wpAnyT_done (by kernel_rfl) ?_
      have cu2 : wa.cell? ⟨b, off + i, none⟩ = some (.string u) := (hHeld.1.cell (p := ⟨b, off + i, none⟩) hbr).trans cu
      have hb2 : b < wa.heap.size := Nat.lt_of_lt_of_le hbr hHeld.1.size
      have HB2 := Lib.hid (HB.out.trans (hHeld.1.mono HB.out.size))
      have HBW := Lib.hid (HBr.out.trans (hHeld.1.mono HBr.out.size))
      clear cu hbr hHeld k0 v0 v1
      by_cases htu : t = u
      · have hne := (txt_eq htu).1
        have HTE := Lib.hid htu
        clear htu
        go_wp2_with fail
        go_roundw
        case rel =>
          refine ⟨i + 1, by omega, by go_num, Lib.hid (fun j hj => ?_), HB2⟩
          by_cases hji : j = i
          · subst hji; rw [HTU.out.1, HTU.out.2]; exact HTE.out
          · exact HU.out j (by omega)
        case measure => simp [intOf]; omega
      · have hne := (txt_ne htu).1
        have HTE := Lib.hid htu
        clear htu
        go_wp2_with fail
        go_ret
        refine ⟨ret_bool ?_, HBW.out⟩
        refine (decide_eq_false fun e => HTE.out ?_).symm
        rw [← HTU.out.1, ← HTU.out.2, e]
    · obtain rfl : i = ks := by omega
      have i1 : ¬ (i : Int) < (i : Int) := by omega
      go_wp2_with fail
      go_ret
      refine ⟨ret_bool ?_, HB1.out.trans (HB.out.mono HB1.out.size)⟩
      exact (decide_eq_true (ext_upto HTL.out HSL.out HU.out)).symm
end Go.Proofs.YtpkomloblhbkiaaGreatDoor
namespace Go.Proofs.YtpkomloblhbkiaaGreatDoor
open Go.RowKit
/-- a step as it came in -/
structure TStp where
  pa : Option Addr
  pn : Nat
  pc : Nat
  P : List Int
  ta : Option Addr
  tn : Nat
  tc : Nat
  T : List ByteArray
  deeds : Int
  fa : Option Addr
  fn : Nat
  fc : Nat
  F : List Int
  oa : Option Addr
  on : Nat
  oc : Nat
  O : List Int
def encT (x : TStp) : List Value := [.slice x.pa x.pn x.pc, .slice x.ta x.tn x.tc, .int .i64 x.deeds, .slice x.fa x.fn x.fc, .slice x.oa x.on x.oc]
def stepC (x : TStp) : Array Value := #[.slice x.pa x.pn x.pc, .slice x.ta x.tn x.tc, .int .i64 x.deeds, .slice x.fa x.fn x.fc, .slice x.oa x.on x.oc]
structure TOk (w : World) (x : TStp) : Prop where
  p : SlR encI 1 w w.heap.size x.pa x.pn x.P
  t : SlR encS 1 w w.heap.size x.ta x.tn x.T
  f : SlR encI 1 w w.heap.size x.fa x.fn x.F
  o : SlR encI 1 w w.heap.size x.oa x.on x.O
  ts : ∀ s ∈ x.T, s.size ≤ 140737488351232
  fs : ∀ i ∈ x.F, i ≤ 9223372036854775807
  os : ∀ i ∈ x.O, i ≤ 9223372036854775807
theorem TOk.grow {w w' : World} {x : TStp} (h : TOk w x) (hb : Below w.heap.size w w') : TOk w' x :=
  ⟨(h.p.below hb).more hb.size, (h.t.below hb).more hb.size, (h.f.below hb).more hb.size, (h.o.below hb).more hb.size, h.ts, h.fs, h.os⟩
def bigStep (x : TStp) : Bool := decide (6 < x.pn) || (decide (6 < x.tn) || (x.T.any longT || (decide (100 < x.fn) || decide (100 < x.on))))
def largeB (L : List TStp) : Bool := decide (8 < L.length) || L.any bigStep
theorem SlC.stp {w : World} {b off : Nat} {L : List TStp} (h : SlC encT 5 w b off L) {k : Nat} {o : TStp} (hl : L[k]? = some o) :
    w.cell? ⟨b, off + k * 5, none⟩ = some (.slice o.pa o.pn o.pc) ∧ w.cell? ⟨b, off + k * 5 + 1, none⟩ = some (.slice o.ta o.tn o.tc) ∧ w.cell? ⟨b, off + k * 5 + 2, none⟩ = some (.int .i64 o.deeds) ∧ w.cell? ⟨b, off + k * 5 + 3, none⟩ = some (.slice o.fa o.fn o.fc) ∧ w.cell? ⟨b, off + k * 5 + 4, none⟩ = some (.slice o.oa o.on o.oc) :=
  ⟨h k o hl 0 _ rfl, h k o hl 1 _ rfl, h k o hl 2 _ rfl, h k o hl 3 _ rfl, h k o hl 4 _ rfl⟩
set_option maxRecDepth 100000 in
set_option maxHeartbeats 2000000 in
theorem tlarge_any (L : List TStp) (A : Option Addr) (n c : Nat) (w : World) (hL : SlR encT 5 w w.heap.size A n L) (hn : n ≤ 140737488351232) (hOk : ∀ x ∈ L, TOk w x) :
    Calls Tryz.prog 6 #[.slice A n c] w fun e w' => e = .returned (.bool (largeB L)) ∧ Below w.heap.size w w' := by
  have hl := hL.1
  have HLL := Lib.hid hl
  by_cases h8 : n ≤ 8
  · have h8i : ¬ (8 : Int) < (n : Int) := by omega
    have h8j : (n : Int) ≤ 8 := by omega
    have h8k : ¬ 8 < n := by omega
    have HOK := Lib.hid hOk
    rcases hL.2 with h0 | ⟨b, off, rfl, hb, hC⟩
    · obtain rfl : L = [] := List.eq_nil_of_length_eq_zero (by omega)
      subst h0
      clear hL hl hOk
      go_enter Tryz.func6, Tryz.ntmps6
      go_wp2_with fail
      go_loopw [3] (fun iv wr => iv = .int .i64 0 ∧ Hid (w = wr)) (fun iv _ => 0)
      case atStart => exact ⟨rfl, Lib.hid rfl⟩
      case round =>
        obtain ⟨rfl, HW⟩ := hrel
        go_wp2_with fail
        go_ret
        refine ⟨rfl, ?_⟩
        rw [HW.out]
        exact Below.refl _ _
    · have HC := Lib.hid hC
      have HBB := Lib.hid hb
      clear hL hl hOk hC hb
      go_enter Tryz.func6, Tryz.ntmps6
      go_wp2_with fail
      go_loopw [3] (fun iv wr => ∃ i : Nat, i ≤ n ∧ iv = .int .i64 i ∧ Hid (∀ (j : Nat) (x : TStp), j < i → L[j]? = some x → bigStep x = false) ∧ Hid (Below w.heap.size w wr)) (fun iv _ => n - (intOf iv).toNat)
      case atStart => exact ⟨0, by omega, rfl, Lib.hid (fun j x hj _ => by omega), Lib.hid (Below.refl _ _)⟩
      case round =>
        obtain ⟨i, hi, rfl, HU, HB⟩ := hrel
        by_cases hlt : i < n
        · obtain ⟨x, hx⟩ : ∃ x, L[i]? = some x := ⟨_, List.getElem?_eq_getElem (by rw [HLL.out]; exact hlt)⟩
          have hmem := List.mem_of_getElem? hx
          have hok := (HOK.out x hmem).grow HB.out
          have i0 : (0 : Int) ≤ (i : Int) := by omega
          have i1 : (i : Int) < (n : Int) := by omega
          obtain ⟨x0, x1, x2, x3, x4⟩ := (show SlC encT 5 wr b off L from HC.out.below HB.out HBB.out).stp hx
          have HX := Lib.hid (And.intro hx hmem)
          obtain ⟨pa, pn, pc, P, ta, tn, tc, T, deeds, fa, fn, fc, F, oa, on, oc, O⟩ := x
          dsimp only at x0 x1 x2 x3 x4
          have HT := Lib.hid (fun W (hW : Below wr.heap.size wr W) (h : tn ≤ 1000) => short_any T ta tn tc W ((hok.grow hW).t) h)
          obtain ⟨bt, hbt⟩ : ∃ b, T.any longT = b := ⟨_, rfl⟩
          rw [hbt] at HT
          have hbig : bigStep ⟨pa, pn, pc, P, ta, tn, tc, T, deeds, fa, fn, fc, F, oa, on, oc, O⟩ = (decide (6 < pn) || (decide (6 < tn) || (bt || (decide (100 < fn) || decide (100 < on))))) := by rw [← hbt]; rfl
          have HBIG := Lib.hid hbig
          have HY : Hid (bigStep ⟨pa, pn, pc, P, ta, tn, tc, T, deeds, fa, fn, fc, F, oa, on, oc, O⟩ = true → largeB L = true) := Lib.hid (fun h => by
            unfold largeB
            rw [List.any_eq_true.2 ⟨_, HX.out.2, h⟩, Bool.or_true])
          clear hx hmem hok hbt hbig
          by_cases h1 : 6 < pn
          · have h1i : (6 : Int) < (pn : Int) := by omega
            have HZ := Lib.hid (HY.out (by rw [HBIG.out]; simp [h1]))
            clear HY HBIG h1
            go_wp2_with fail
            go_ret
            exact ⟨ret_bool HZ.out.symm, HB.out.alloc HB.out.size _⟩
          · have h1i : ¬ (6 : Int) < (pn : Int) := by omega
            by_cases h2 : 6 < tn
            · have h2i : (6 : Int) < (tn : Int) := by omega
              have HZ := Lib.hid (HY.out (by rw [HBIG.out]; simp [h2]))
              clear HY HBIG h2
              go_wp2_with fail
              go_ret
              exact ⟨ret_bool HZ.out.symm, HB.out.alloc HB.out.size _⟩
            · have h2i : ¬ (6 : Int) < (tn : Int) := by omega
              have ht6 : tn ≤ 1000 := by omega
              go_wp2_with fail
              refine (HT.out _ (by go_grown) ht6).mono ?_
              rintro e w2 ⟨rfl, rfl⟩
              cases bt with
              | true =>
                have HZ := Lib.hid (HY.out (by rw [HBIG.out]; simp))
                clear HY HBIG
                go_wp2_with fail
                go_ret
                exact ⟨ret_bool HZ.out.symm, HB.out.alloc HB.out.size _⟩
              | false =>
                by_cases h3 : 100 < fn
                · have h3i : (100 : Int) < (fn : Int) := by omega
                  have HZ := Lib.hid (HY.out (by rw [HBIG.out]; simp [h3]))
                  clear HY HBIG h3
                  go_wp2_with fail
                  go_ret
                  exact ⟨ret_bool HZ.out.symm, HB.out.alloc HB.out.size _⟩
                · have h3i : ¬ (100 : Int) < (fn : Int) := by omega
                  by_cases h4 : 100 < on
                  · have h4i : (100 : Int) < (on : Int) := by omega
                    have HZ := Lib.hid (HY.out (by rw [HBIG.out]; simp [h4]))
                    clear HY HBIG h4
                    go_wp2_with fail
                    go_ret
                    exact ⟨ret_bool HZ.out.symm, HB.out.alloc HB.out.size _⟩
                  · have h4i : ¬ (100 : Int) < (on : Int) := by omega
                    have HZ := Lib.hid (show bigStep ⟨pa, pn, pc, P, ta, tn, tc, T, deeds, fa, fn, fc, F, oa, on, oc, O⟩ = false by rw [HBIG.out]; simp [h1, h2, h3, h4])
                    clear HY HBIG h1 h2 h3 h4
                    go_wp2_with fail
                    go_roundw
                    case rel =>
                      refine ⟨i + 1, by omega, by go_num, Lib.hid (fun j x hj hjx => ?_), ?_⟩
                      · by_cases hji : j = i
                        · subst hji
                          rw [HX.out.1] at hjx
                          injection hjx with hjx
                          rw [← hjx]
                          exact HZ.out
                        · exact HU.out j x (by omega) hjx
                      · exact Lib.hid (HB.out.alloc HB.out.size _)
                    case measure => simp [intOf]; omega
        · obtain rfl : i = n := by omega
          have i1 : ¬ (i : Int) < (i : Int) := by omega
          go_wp2_with fail
          go_ret
          refine ⟨ret_bool ?_, HB.out⟩
          have hany : L.any bigStep = false := by
            rw [List.any_eq_false]
            intro x hx
            obtain ⟨j, hj⟩ := List.getElem?_of_mem hx
            rw [HU.out j x (by have := (List.getElem?_eq_some_iff.1 hj).1; rw [HLL.out] at this; exact this) hj]
            simp
          unfold largeB
          rw [HLL.out, hany]
          simp
          omega
  · have h8i : (8 : Int) < (n : Int) := by omega
    have h8j : ¬ (n : Int) ≤ 8 := by omega
    have hlb : largeB L = true := by unfold largeB; rw [hl]; simp; omega
    have HLB := Lib.hid hlb
    clear hL hl hOk hlb h8
    go_enter Tryz.func6, Tryz.ntmps6
    go_wp2_with fail
    go_loopw [3] (fun iv wr => iv = .int .i64 0 ∧ Hid (w = wr)) (fun iv _ => 0)
    case atStart => exact ⟨rfl, Lib.hid rfl⟩
    case round =>
      obtain ⟨rfl, HW⟩ := hrel
      have i1 : (0 : Int) < (n : Int) := by omega
      go_wp2_with fail
      go_ret
      refine ⟨ret_bool HLB.out.symm, ?_⟩
      rw [HW.out]
      exact Below.refl _ _
end Go.Proofs.YtpkomloblhbkiaaGreatDoor
