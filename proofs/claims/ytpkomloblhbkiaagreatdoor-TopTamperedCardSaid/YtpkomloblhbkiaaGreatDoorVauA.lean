/- vault: sector, size, Head, readHead. -/
import Derived.Test.YtpkomloblhbkiaaGreatDoorVolC
import Derived.Test.YtpkomloblhbkiaaGreatDoorBytes
import Derived.BigRegion
import Derived.Deep.QuietTactic
import Derived.BigQuiet
set_option linter.unusedVariables false
set_option linter.unusedSimpArgs false
/- volume: Format, Read, Write. -/
namespace Go.Proofs.YtpkomloblhbkiaaGreatDoor
open Go.RowKit
def formatV (n : Int) : Vol × Int := if countI n = true then (⟨List.replicate n.toNat ByteArray.empty, rootV (List.replicate n.toNat ByteArray.empty)⟩, 0) else (noVol, 1)
def readV (v : Vol) (key : ByteArray) (i : Int) : ByteArray × Int :=
  if fitV v (hasI v.blocks.length i) = 0 then showV key i (v.blocks.getD i.toNat ByteArray.empty) else (⟨#[]⟩, fitV v (hasI v.blocks.length i))
def writeV (v : Vol) (key nonce : ByteArray) (i : Int) (s : ByteArray) : Vol × Int :=
  if fitV v (hasI v.blocks.length i) = 0 then
    if (hideV key nonce i s).2 = 0 then (⟨v.blocks.set i.toNat (hideV key nonce i s).1, rootV (v.blocks.set i.toNat (hideV key nonce i s).1)⟩, 0)
    else (noVol, (hideV key nonce i s).2)
  else (noVol, fitV v (hasI v.blocks.length i))
theorem fit_ok {v : Vol} {t : Bool} (h : fitV v t = 0) : volB v = true ∧ t = true ∧ rootV v.blocks = v.root := by
  unfold fitV at h
  split at h
  · simp at h
  · split at h
    · simp at h
    · split at h
      · rename_i h1 h2 h3
        exact ⟨by simpa using h1, by simpa using h2, h3⟩
      · simp at h
theorem hide_ok {key nonce : ByteArray} {i : Int} {s : ByteArray} (h : (hideV key nonce i s).2 = 0) : placeI i = true ∧ s.size ≤ 64 ∧ nonce.size = 12 ∧ (sealF key nonce (besideB i.toNat) s).2 = 0 ∧ (hideV key nonce i s).1 = nonce ++ (sealF key nonce (besideB i.toNat) s).1 := by
  unfold hideV at h ⊢
  split at h
  · simp at h
  · split at h
    · simp at h
    · split at h
      · rename_i h1 h2 h3
        rw [if_neg h1, if_neg h2, if_pos h3]
        exact ⟨by simpa using h1, by omega, (seal_ok (Prod.ext rfl h3 : sealF key nonce (besideB i.toNat) s = ((sealF key nonce (besideB i.toNat) s).1, 0))).2.1, h3, rfl⟩
      · rename_i h3
        exact absurd h h3
theorem hide_size {key nonce : ByteArray} {i : Int} {s : ByteArray} (h : (hideV key nonce i s).2 = 0) : (hideV key nonce i s).1.size = s.size + 28 := by
  obtain ⟨_, h2, h3, h4, h5⟩ := hide_ok h
  rw [h5, ByteArray.size_append, seal_size (Prod.ext rfl h4 : sealF key nonce (besideB i.toNat) s = ((sealF key nonce (besideB i.toNat) s).1, 0))]
  omega
theorem hide_place {key nonce : ByteArray} {i : Int} {s : ByteArray} (h : (hideV key nonce i s).2 = 0) : (hideV key nonce i s).1.size ≤ 92 := by
  rw [hide_size h]
  have := (hide_ok h).2.1
  omega
set_option maxRecDepth 100000 in
set_option maxHeartbeats 1000000 in
theorem vformat_any (n : Int) (w : World) (hE : Env w) :
    Calls Tryz.prog 40 #[.int .i64 n] w fun e w' => ∃ v, e = .returned (.tuple #[v, .int .i64 (formatV n).2]) ∧ VolOut w' w.heap.size v (formatV n).1 ∧ Below w.heap.size w w' := by
  have HC := Lib.hid (fun W => count_any n W)
  cases hc : countI n
  · rw [show formatV n = (noVol, 1) by rw [formatV, if_neg (by rw [hc]; decide)]]
    rw [hc] at HC
    clear hc hE
    go_enter Tryz.func40, Tryz.ntmps40
    go_wp2_with fail
    refine (HC.out _).mono ?_
    rintro e w1 ⟨rfl, rfl⟩
    go_wp2_with (with_reducible refine end_at ?_)
    refine end_ret (v := .tuple #[.agg #[.slice none 0 0, .string ⟨#[]⟩], .int .i64 1]) (by simp [results, Tryz.results40, go_sem]; try rfl) rfl ⟨_, rfl, VolOut.none_ _ _, by go_grown⟩
  · obtain ⟨k, rfl⟩ : ∃ k : Nat, n = k := ⟨n.toNat, by simp only [countI, Bool.and_eq_true, decide_eq_true_eq] at hc; omega⟩
    obtain ⟨hm, h1, h64⟩ := count_may hc
    rw [show formatV (k : Int) = (⟨List.replicate k ByteArray.empty, rootV (List.replicate k ByteArray.empty)⟩, 0) by rw [formatV, if_pos hc]; rfl]
    rw [hc] at HC
    obtain ⟨i0, hi0, hz0, hz1, hz2⟩ := info_parts str_info
    have hmk := fun W => run_make_rowN (P := Tryz.prog) 30 9 i0 _ Tryz.underlying30 hi0 hz0 .i64 .i64 k k (Nat.le_refl _) (by rw [hz2]; omega) (by omega) W
    simp only [hz1, Nat.mul_one, Value.cells] at hmk
    have HO := Lib.hid (fun cs => own_made (w := w.alloc (.cells cs 36)) (B := w.heap.size) k (by simp) (by simp only [maxLen]; omega))
    generalize hmc : madeCells #[.string ByteArray.empty] k = mc at hmk HO
    have HE := Lib.hid hE
    have HM := Lib.hid hm
    clear hmc hz0 hz1 hz2 hi0 hc hE hm
    have hLl : (List.replicate k ByteArray.empty).length = k := List.length_replicate
    have hLs : ∀ s ∈ List.replicate k ByteArray.empty, s.size ≤ 140737488351232 := fun s hs => by rw [(List.mem_replicate.1 hs).2]; exact Nat.zero_le _
    generalize List.replicate k ByteArray.empty = L at *
    obtain ⟨a, ha⟩ : ∃ a, rootV L = a := ⟨_, rfl⟩
    rw [ha]
    have HA := Lib.hid ha
    clear ha
    go_enter Tryz.func40, Tryz.ntmps40
    go_wp2_with fail
    refine (HC.out _).mono ?_
    rintro e w1 ⟨rfl, rfl⟩
    go_wp2_with fail
    have hz0 := HO.out #[.slice none 0 0, .string ⟨#[]⟩]
    simp only [World.size_alloc] at hz0
    have hs0 : SRow (((w.alloc (.cells #[.slice none 0 0, .string ⟨#[]⟩] 36)).alloc (.cells mc 9)).alloc (.cells #[.slice (some ⟨w.heap.size + 1, 0, none⟩) k k, .string ⟨#[]⟩] 107)) w.heap.size (.slice (some ⟨w.heap.size + 1, 0, none⟩) k k) L := orow_join (World.ownsRow.alloc hz0 _) L hLl.symm rfl
    have hB0 : Below w.heap.size w (((w.alloc (.cells #[.slice none 0 0, .string ⟨#[]⟩] 36)).alloc (.cells mc 9)).alloc (.cells #[.slice (some ⟨w.heap.size + 1, 0, none⟩) k k, .string ⟨#[]⟩] 107)) := by go_grown
    have hx0 : Blk (((w.alloc (.cells #[.slice none 0 0, .string ⟨#[]⟩] 36)).alloc (.cells mc 9)).alloc (.cells #[.slice (some ⟨w.heap.size + 1, 0, none⟩) k k, .string ⟨#[]⟩] 107)) w.heap.size 36 #[.slice none 0 0, .string ⟨#[]⟩] := ((Blk.new w _ _).alloc _).alloc _
    have hk0 : Blk (((w.alloc (.cells #[.slice none 0 0, .string ⟨#[]⟩] 36)).alloc (.cells mc 9)).alloc (.cells #[.slice (some ⟨w.heap.size + 1, 0, none⟩) k k, .string ⟨#[]⟩] 107)) (w.heap.size + 1 + 1) 107 #[.slice (some ⟨w.heap.size + 1, 0, none⟩) k k, .string ⟨#[]⟩] := Blk.new_at (by simp) _ _
    generalize ((w.alloc (.cells #[.slice none 0 0, .string ⟨#[]⟩] 36)).alloc (.cells mc 9)).alloc (.cells #[.slice (some ⟨w.heap.size + 1, 0, none⟩) k k, .string ⟨#[]⟩] 107) = w2 at *
    have hwr := wrooted_any L ⟨#[]⟩ (w.heap.size + 1 + 1) _ k k w2 hk0 (srow_slr hs0 hLl) HM.out hLs (HE.out.below hB0)
    rw [HA.out] at hwr
    refine hwr.mono ?_
    clear hwr
    rintro e w3 ⟨rfl, hb3⟩
    have hx3 := hx0.below hb3 (by omega)
    have hs3 : SRow w3 w.heap.size (.slice (some ⟨w.heap.size + 1, 0, none⟩) k k) L := own_lt_below hs0 (fun q hq => by simp [Value.ownBlock] at hq; omega) hb3
    have hB3 : Below w.heap.size w w3 := hB0.trans (hb3.mono (by omega))
    have c0 := hx3.cells 0 _ rfl
    have c1 := hx3.cells 1 _ rfl
    have cf := hx3.frozen
    have cl := hx3.lt
    simp only [List.getElem_toArray, List.getElem_cons_zero, List.getElem_cons_succ] at c0 c1
    have y3 := (hx3.set_ 0 (.slice (some ⟨w.heap.size + 1, 0, none⟩) k k)).set_ 1 (.string a)
    simp only [List.setIfInBounds_toArray, List.set_cons_zero, List.set_cons_succ] at y3
    have hsz : SRow ((w3.setCell ⟨w.heap.size, 0, none⟩ (.slice (some ⟨w.heap.size + 1, 0, none⟩) k k)).setCell ⟨w.heap.size, 1, none⟩ (.string a)) w.heap.size (.slice (some ⟨w.heap.size + 1, 0, none⟩) k k) L := own_far (own_far hs3 (by simp [Value.ownBlock]) _ _) (by simp [Value.ownBlock]) _ _
    have hBz : Below w.heap.size w ((w3.setCell ⟨w.heap.size, 0, none⟩ (.slice (some ⟨w.heap.size + 1, 0, none⟩) k k)).setCell ⟨w.heap.size, 1, none⟩ (.string a)) := (hB3.setCell (p := ⟨w.heap.size, 0, none⟩) (Nat.le_refl _) _).setCell (p := ⟨w.heap.size, 1, none⟩) (Nat.le_refl _) _
    have HZ := Lib.hid (And.intro y3 (And.intro hsz hBz))
    have HLL := Lib.hid hLl
    clear hx0 hk0 hs0 hB0 hx3 hs3 hB3 y3 hsz hBz hb3 hLl hLs
    go_wp2_with (with_reducible refine end_at ?_)
    have hld := vol_load HZ.out.1
    obtain ⟨_, hsz, hBz⟩ := HZ.out
    generalize (w3.setCell ⟨w.heap.size, 0, none⟩ (.slice (some ⟨w.heap.size + 1, 0, none⟩) k k)).setCell ⟨w.heap.size, 1, none⟩ (.string a) = W9 at *
    refine end_ret (v := .tuple #[.agg #[.slice (some ⟨w.heap.size + 1, 0, none⟩) k k, .string a], .int .i64 0]) (by simp [results, Tryz.results40, asAddr, hld]) rfl ⟨_, rfl, ⟨some ⟨w.heap.size + 1, 0, none⟩, k, ?_, ?_⟩, hBz⟩
    · rw [HLL.out]
    · rw [HLL.out]; exact Lib.hid hsz
set_option maxRecDepth 100000 in
set_option maxHeartbeats 1000000 in
theorem vread_any (v : Vol) (key : ByteArray) (i : Int) (A : Option Addr) (n c : Nat) (w : World) (hL : SlR encS 1 w w.heap.size A n v.blocks) (hs : ∀ s ∈ v.blocks, s.size ≤ 140737488351232) (hr : v.root.size ≤ 140737488351232) (hE : Env w) :
    Calls Tryz.prog 21 #[.agg #[.slice A n c, .string v.root], .string key, .int .i64 i] w fun e w' => e = .returned (.tuple #[.string (readV v key i).1, .int .i64 (readV v key i).2]) ∧ Below w.heap.size w w' := by
  have hl := hL.1
  have hB0 : Below w.heap.size w ((w.alloc (.cells #[.slice A n c, .string v.root] 36)).alloc (.cells #[.slice A n c, .string v.root] 107)) := by go_grown
  have hk0 : Blk ((w.alloc (.cells #[.slice A n c, .string v.root] 36)).alloc (.cells #[.slice A n c, .string v.root] 107)) (w.heap.size + 1) 107 #[.slice A n c, .string v.root] := Blk.new_at (by simp) _ _
  have HHA := Lib.hid (vhas_any (w.heap.size + 1) A n c v.root i _ hk0)
  have HFI := Lib.hid (vfit_any v (hasI n i) (w.heap.size + 1) A n c _ hk0 ((hL.below hB0).more hB0.size) hs hr (hE.below hB0))
  have HB0 := Lib.hid hB0
  have HK0 := Lib.hid hk0
  by_cases hf : fitV v (hasI n i) = 0
  · obtain ⟨hv, hh, _⟩ := fit_ok hf
    have hi : 0 ≤ i ∧ i < (n : Int) := by simpa [hasI] using hh
    obtain ⟨k, rfl⟩ : ∃ k : Nat, i = k := ⟨i.toNat, by omega⟩
    have hk : k < v.blocks.length := by omega
    obtain ⟨x, hx⟩ : ∃ x, v.blocks[k]? = some x := ⟨_, List.getElem?_eq_getElem hk⟩
    rw [show readV v key (k : Int) = showV key k x by rw [readV, hl, if_pos hf, Int.toNat_natCast, List.getD_eq_getElem?_getD, hx]; rfl]
    have HSH := Lib.hid (fun W (hW : Below w.heap.size w W) => show_any key k x W (hE.below hW) (hs x (List.mem_of_getElem? hx)))
    rcases hL.2 with h0 | ⟨b, off, rfl, hb, hC⟩
    · omega
    have HCX : Hid (∀ W, Below w.heap.size w W → W.cell? ⟨b, off + k, none⟩ = some (.string x)) := Lib.hid (fun W hW => (hC.below hW hb).str hx)
    rw [hf] at HFI
    rw [hh] at HFI HHA
    generalize showV key k x = R at *
    have i0 : (0 : Int) ≤ (k : Int) := by omega
    have i1 : (k : Int) < (n : Int) := by omega
    have i2 : k < n := by omega
    clear hL hs hE hf hv hh hi hk hx hC hb hl hB0 hk0 hr
    obtain ⟨L, root⟩ := v
    dsimp only at *
    go_enter Tryz.func21, Tryz.ntmps21
    go_wp2_with fail
    refine HHA.out.mono ?_
    rintro e w1 ⟨rfl, rfl⟩
    go_wp2_with fail
    refine HFI.out.mono ?_
    rintro e w2 ⟨rfl, hb2⟩
    have HB2 := Lib.hid (HB0.out.trans (hb2.mono HB0.out.size))
    have hk2 := HK0.out.below hb2 (by simp)
    have cx := HCX.out w2 HB2.out
    have c0 := hk2.cells 0 _ rfl
    simp only [List.getElem_toArray, List.getElem_cons_zero, List.getElem_cons_succ] at c0
    clear hk2 hb2
    go_wp2_with fail
    refine (HSH.out _ HB2.out).mono ?_
    rintro e w3 ⟨rfl, hb3⟩
    have HB3 := Lib.hid (HB2.out.trans (hb3.mono HB2.out.size))
    clear hb3
    go_wp2_with (with_reducible refine end_at ?_)
    refine end_ret (v := .tuple #[.string R.1, .int .i64 R.2]) (by simp [results, Tryz.results21]) rfl ⟨rfl, HB3.out⟩
  · rw [show readV v key i = (⟨#[]⟩, fitV v (hasI n i)) by rw [readV, hl, if_neg hf]]
    generalize fitV v (hasI n i) = f at *
    generalize hasI n i = q at *
    clear hL hs hE hl hB0 hk0 hr
    obtain ⟨L, root⟩ := v
    dsimp only at *
    go_enter Tryz.func21, Tryz.ntmps21
    go_wp2_with fail
    refine HHA.out.mono ?_
    rintro e w1 ⟨rfl, rfl⟩
    go_wp2_with fail
    refine HFI.out.mono ?_
    rintro e w2 ⟨rfl, hb2⟩
    have HB2 := Lib.hid (HB0.out.trans (hb2.mono HB0.out.size))
    clear hb2
    go_wp2_with (with_reducible refine end_at ?_)
    refine end_ret (v := .tuple #[.string ⟨#[]⟩, .int .i64 f]) (by simp [results, Tryz.results21]) rfl ⟨rfl, HB2.out⟩
set_option maxRecDepth 100000 in
set_option maxHeartbeats 2000000 in
theorem vwrite_any (v : Vol) (key nonce : ByteArray) (i : Int) (s : ByteArray) (A : Option Addr) (n c : Nat) (w : World) (hL : SlR encS 1 w w.heap.size A n v.blocks) (hs : ∀ s ∈ v.blocks, s.size ≤ 140737488351232) (hr : v.root.size ≤ 140737488351232) (hss : s.size ≤ 140737488351232) (hE : Env w) :
    Calls Tryz.prog 18 #[.agg #[.slice A n c, .string v.root], .string key, .string nonce, .int .i64 i, .string s] w fun e w' => ∃ x, e = .returned (.tuple #[x, .int .i64 (writeV v key nonce i s).2]) ∧ VolOut w' w.heap.size x (writeV v key nonce i s).1 ∧ Below w.heap.size w w' := by
  have hl := hL.1
  have hB0 : Below w.heap.size w ((((w.alloc (.cells #[.slice A n c, .string v.root] 36)).alloc (.cells #[.slice none 0 0, .string ⟨#[]⟩] 36)).alloc (.cells #[.slice A n c, .string v.root] 107))) := by go_grown
  have hx0 : Blk ((((w.alloc (.cells #[.slice A n c, .string v.root] 36)).alloc (.cells #[.slice none 0 0, .string ⟨#[]⟩] 36)).alloc (.cells #[.slice A n c, .string v.root] 107))) (w.heap.size + 1) 36 #[.slice none 0 0, .string ⟨#[]⟩] := (Blk.new_at (by simp) _ _).alloc _
  have hv0 : Blk ((((w.alloc (.cells #[.slice A n c, .string v.root] 36)).alloc (.cells #[.slice none 0 0, .string ⟨#[]⟩] 36)).alloc (.cells #[.slice A n c, .string v.root] 107))) w.heap.size 36 #[.slice A n c, .string v.root] := ((Blk.new w _ _).alloc _).alloc _
  have hk0 : Blk ((((w.alloc (.cells #[.slice A n c, .string v.root] 36)).alloc (.cells #[.slice none 0 0, .string ⟨#[]⟩] 36)).alloc (.cells #[.slice A n c, .string v.root] 107))) (w.heap.size + 1 + 1) 107 #[.slice A n c, .string v.root] := Blk.new_at (by simp) _ _
  have HHA := Lib.hid (vhas_any (w.heap.size + 1 + 1) A n c v.root i _ hk0)
  have HFI := Lib.hid (vfit_any v (hasI n i) (w.heap.size + 1 + 1) A n c _ hk0 ((hL.below hB0).more hB0.size) hs hr (hE.below hB0))
  have HHI := Lib.hid (fun W (hW : Below w.heap.size w W) => hide_any key nonce i s W (hE.below hW) hss)
  have HE := Lib.hid hE
  have HB0 := Lib.hid hB0
  have HX0 := Lib.hid hx0
  have HV0 := Lib.hid hv0
  by_cases hf : fitV v (hasI n i) = 0
  · by_cases hh : (hideV key nonce i s).2 = 0
    · obtain ⟨hv, ht, _⟩ := fit_ok hf
      have hi : 0 ≤ i ∧ i < (n : Int) := by simpa [hasI] using ht
      obtain ⟨k, rfl⟩ : ∃ k : Nat, i = k := ⟨i.toNat, by omega⟩
      have hk : k < v.blocks.length := by omega
      obtain ⟨hcn, h32, hall⟩ := (volB_iff v).1 hv
      rw [hl] at hcn
      obtain ⟨hm, hn1, hn64⟩ := count_may hcn
      have hpz := hide_place hh
      rw [show writeV v key nonce (k : Int) s = (⟨v.blocks.set k (hideV key nonce k s).1, rootV (v.blocks.set k (hideV key nonce k s).1)⟩, 0) by rw [writeV, hl, if_pos hf, if_pos hh, Int.toNat_natCast]]
      have hV : hideV key nonce (k : Int) s = ((hideV key nonce k s).1, 0) := Prod.ext rfl hh
      rw [hV] at HHI
      rw [hf] at HFI
      rw [ht] at HFI HHA
      generalize (hideV key nonce (k : Int) s).1 = P at *
      have HCP := Lib.hid (fun W (hW : Below w.heap.size w W) => vcopied_any v.blocks v.root A n c W ((hL.below hW).more hW.size) (by omega))
      have i0 : (0 : Int) ≤ (k : Int) := by omega
      have i1 : (k : Int) < (n : Int) := by omega
      have i2 : k < n := by omega
      have HL := Lib.hid hl
      have HM := Lib.hid hm
      have hs2 : ∀ x ∈ v.blocks.set k P, x.size ≤ 140737488351232 := fun x hx => by
        rcases List.mem_or_eq_of_mem_set hx with h | h
        · exact hs x h
        · rw [h]; omega
      have HS2 := Lib.hid hs2
      clear hL hs hE hf hv hh hi hk hl hB0 hk0 hr hx0 hv0 ht hcn h32 hall hm hpz hV hs2
      obtain ⟨L, root⟩ := v
      dsimp only at *
      obtain ⟨L2, hL2⟩ : ∃ L2, L.set k P = L2 := ⟨_, rfl⟩
      obtain ⟨a, ha⟩ : ∃ a, rootV L2 = a := ⟨_, rfl⟩
      rw [hL2, ha]
      rw [hL2] at HS2
      have HL2 := Lib.hid hL2
      have HA := Lib.hid ha
      clear hL2 ha
      go_enter Tryz.func18, Tryz.ntmps18
      go_wp2_with fail
      refine HHA.out.mono ?_
      rintro e w1 ⟨rfl, rfl⟩
      go_wp2_with fail
      refine HFI.out.mono ?_
      rintro e w2 ⟨rfl, hb2⟩
      have HB2 := Lib.hid (HB0.out.trans (hb2.mono HB0.out.size))
      have HX2 := Lib.hid (HX0.out.below hb2 (by simp))
      have HV2 := Lib.hid (HV0.out.below hb2 (by simp; omega))
      clear hb2 HX0 HV0 HB0 HHA HFI
      go_wp2_with fail
      refine (HHI.out _ HB2.out).mono ?_
      rintro e w3 ⟨rfl, hb3⟩
      have HB3 := Lib.hid (HB2.out.trans (hb3.mono HB2.out.size))
      have HX3 := Lib.hid (HX2.out.below hb3 HX2.out.lt)
      have HV3 := Lib.hid (HV2.out.below hb3 HV2.out.lt)
      have c0 := HV3.out.cells 0 _ rfl
      have c1 := HV3.out.cells 1 _ rfl
      simp only [List.getElem_toArray, List.getElem_cons_zero, List.getElem_cons_succ] at c0 c1
      clear hb3 HX2 HV2 HB2 HHI
      go_wp2_with fail
      refine (HCP.out _ HB3.out).mono ?_
      rintro e w4 ⟨g, A1, c1', rfl, hs4, hk4, hg4, hlt4, hb4⟩
      have hB4 := HB3.out.trans (hb4.mono HB3.out.size)
      have hX4 := HX3.out.below hb4 HX3.out.lt
      have hgx : w.heap.size + 1 < g := Nat.lt_of_lt_of_le HX3.out.lt hg4
      obtain ⟨gr, x, rfl, hgr1, hgr2, cx, cf, hs5⟩ := srow_set hs4.out HL.out i2 P
      rw [HL2.out] at hs5
      have hgrg : gr < g := hlt4 gr (by simp [Value.ownBlock])
      have d0 := hk4.out.cells 0 _ rfl
      have d1 := hk4.out.cells 1 _ rfl
      simp only [List.getElem_toArray, List.getElem_cons_zero, List.getElem_cons_succ] at d0 d1
      have hk5 := hk4.out.far (p := ⟨gr, k, none⟩) (show g ≠ gr by omega) (.string P)
      have hX5 := hX4.far (p := ⟨gr, k, none⟩) (show w.heap.size + 1 ≠ gr by have := HX3.out.lt; omega) (.string P)
      have hB5 : Below w.heap.size w (w4.setCell ⟨gr, k, none⟩ (.string P)) := hB4.setCell (p := ⟨gr, k, none⟩) (by have := HB3.out.size; show w.heap.size ≤ gr; omega) (.string P)
      have H5 := Lib.hid (And.intro hk5 (And.intro hX5 (And.intro hB5 hs5)))
      have HG := Lib.hid (And.intro hgx (And.intro hgrg (show w.heap.size ≤ w3.heap.size from HB3.out.size)))
      clear hb4 hB4 hX4 hs4 hk4 hk5 hX5 hB5 hs5 HX3 HV3 c0 c1 HCP hgx hlt4
      go_wp2_with fail
      obtain ⟨hk5, hX5, hB5, hs5⟩ := H5.out
      have hlen : L2.length = n := by rw [← HL2.out, List.length_set]; exact HL.out
      generalize w4.setCell ⟨gr, k, none⟩ (.string P) = w5 at *
      have hwr := wrooted_any L2 root g _ n c1' w5 hk5 (srow_slr hs5 hlen) HM.out HS2.out (HE.out.below hB5)
      rw [HA.out] at hwr
      refine hwr.mono ?_
      clear hwr
      rintro e w6 ⟨rfl, hb6⟩
      have hx6 := hX5.below hb6 HG.out.1
      have hs6 : SRow w6 w.heap.size (.slice (some ⟨gr, 0, none⟩) n c1') L2 := own_base (own_lt_below hs5 (fun q hq => by simp [Value.ownBlock] at hq; have := HG.out.2.1; omega) hb6) HG.out.2.2
      have hB6 : Below w.heap.size w w6 := hB5.trans (hb6.mono (by have := HG.out.1; omega))
      have z0 := hx6.cells 0 _ rfl
      have z1 := hx6.cells 1 _ rfl
      have zf := hx6.frozen
      have zl := hx6.lt
      simp only [List.getElem_toArray, List.getElem_cons_zero, List.getElem_cons_succ] at z0 z1
      have y6 := (hx6.set_ 0 (.slice (some ⟨gr, 0, none⟩) n c1')).set_ 1 (.string a)
      simp only [List.setIfInBounds_toArray, List.set_cons_zero, List.set_cons_succ] at y6
      have hne : (Value.slice (some ⟨gr, 0, none⟩) n c1').ownBlock ≠ some (w.heap.size + 1) := own_blk_ne hs6 hx6 (by decide)
      have hs7 : SRow ((w6.setCell ⟨w.heap.size + 1, 0, none⟩ (.slice (some ⟨gr, 0, none⟩) n c1')).setCell ⟨w.heap.size + 1, 1, none⟩ (.string a)) w.heap.size (.slice (some ⟨gr, 0, none⟩) n c1') L2 := own_far (own_far hs6 hne _ _) hne _ _
      have hB7 : Below w.heap.size w ((w6.setCell ⟨w.heap.size + 1, 0, none⟩ (.slice (some ⟨gr, 0, none⟩) n c1')).setCell ⟨w.heap.size + 1, 1, none⟩ (.string a)) := (hB6.setCell (p := ⟨w.heap.size + 1, 0, none⟩) (Nat.le_succ _) _).setCell (p := ⟨w.heap.size + 1, 1, none⟩) (Nat.le_succ _) _
      have H7 := Lib.hid (And.intro y6 (And.intro hs7 hB7))
      have HLEN := Lib.hid hlen
      clear hb6 hx6 hs6 hB6 y6 hs7 hB7 hne hk5 hX5 hB5 hs5 H5 hlen d0 d1 cx cf
      go_wp2_with (with_reducible refine end_at ?_)
      obtain ⟨y6, hs7, hB7⟩ := H7.out
      have hld := vol_load y6
      generalize (w6.setCell ⟨w.heap.size + 1, 0, none⟩ (.slice (some ⟨gr, 0, none⟩) n c1')).setCell ⟨w.heap.size + 1, 1, none⟩ (.string a) = W9 at *
      refine end_ret (v := .tuple #[.agg #[.slice (some ⟨gr, 0, none⟩) n c1', .string a], .int .i64 0]) (by simp [results, Tryz.results18, asAddr, hld]) rfl ⟨_, rfl, ⟨some ⟨gr, 0, none⟩, c1', ?_, ?_⟩, hB7⟩
      · rw [HLEN.out]
      · rw [HLEN.out]; exact Lib.hid hs7
    · rw [show writeV v key nonce i s = (noVol, (hideV key nonce i s).2) by rw [writeV, hl, if_pos hf, if_neg hh]]
      obtain ⟨_, ht, _⟩ := fit_ok hf
      rw [hf] at HFI
      rw [ht] at HFI HHA
      obtain ⟨⟨P, f⟩, hV⟩ : ∃ V, hideV key nonce i s = V := ⟨_, rfl⟩
      rw [hV] at HHI hh ⊢
      dsimp only at *
      clear hL hs hE hl hB0 hk0 hr hf hV hx0 hv0 ht HE
      obtain ⟨L, root⟩ := v
      dsimp only at *
      go_enter Tryz.func18, Tryz.ntmps18
      go_wp2_with fail
      refine HHA.out.mono ?_
      rintro e w1 ⟨rfl, rfl⟩
      go_wp2_with fail
      refine HFI.out.mono ?_
      rintro e w2 ⟨rfl, hb2⟩
      have HB2 := Lib.hid (HB0.out.trans (hb2.mono HB0.out.size))
      have HX2 := Lib.hid (HX0.out.below hb2 (by simp))
      clear hb2 HX0 HV0 HB0 HHA HFI
      go_wp2_with fail
      refine (HHI.out _ HB2.out).mono ?_
      rintro e w3 ⟨rfl, hb3⟩
      have hB3 := HB2.out.trans (hb3.mono HB2.out.size)
      have hx3 := HX2.out.below hb3 HX2.out.lt
      have z0 := hx3.cells 0 _ rfl
      have z1 := hx3.cells 1 _ rfl
      have zf := hx3.frozen
      have zl := hx3.lt
      simp only [List.getElem_toArray, List.getElem_cons_zero, List.getElem_cons_succ] at z0 z1
      have y3 := (hx3.set_ 0 (.slice none 0 0)).set_ 1 (.string ⟨#[]⟩)
      simp only [List.setIfInBounds_toArray, List.set_cons_zero, List.set_cons_succ] at y3
      have hB7 : Below w.heap.size w ((w3.setCell ⟨w.heap.size + 1, 0, none⟩ (.slice none 0 0)).setCell ⟨w.heap.size + 1, 1, none⟩ (.string ⟨#[]⟩)) := (hB3.setCell (p := ⟨w.heap.size + 1, 0, none⟩) (Nat.le_succ _) _).setCell (p := ⟨w.heap.size + 1, 1, none⟩) (Nat.le_succ _) _
      have H7 := Lib.hid (And.intro y3 hB7)
      clear hb3 hx3 hB3 y3 hB7
      go_wp2_with (with_reducible refine end_at ?_)
      obtain ⟨y3, hB7⟩ := H7.out
      have hld := vol_load y3
      generalize (w3.setCell ⟨w.heap.size + 1, 0, none⟩ (.slice none 0 0)).setCell ⟨w.heap.size + 1, 1, none⟩ (.string ⟨#[]⟩) = W9 at *
      refine end_ret (v := .tuple #[.agg #[.slice none 0 0, .string ⟨#[]⟩], .int .i64 f]) (by simp [results, Tryz.results18, asAddr, hld]) rfl ⟨_, rfl, VolOut.none_ _ _, hB7⟩
  · rw [show writeV v key nonce i s = (noVol, fitV v (hasI n i)) by rw [writeV, hl, if_neg hf]]
    generalize fitV v (hasI n i) = f at *
    generalize hasI n i = q at *
    clear hL hs hE hl hB0 hk0 hr hx0 hv0 HE HHI
    obtain ⟨L, root⟩ := v
    dsimp only at *
    go_enter Tryz.func18, Tryz.ntmps18
    go_wp2_with fail
    refine HHA.out.mono ?_
    rintro e w1 ⟨rfl, rfl⟩
    go_wp2_with fail
    refine HFI.out.mono ?_
    rintro e w3 ⟨rfl, hb3⟩
    have hB3 := HB0.out.trans (hb3.mono HB0.out.size)
    have hx3 := HX0.out.below hb3 (by simp)
    have z0 := hx3.cells 0 _ rfl
    have z1 := hx3.cells 1 _ rfl
    have zf := hx3.frozen
    have zl := hx3.lt
    simp only [List.getElem_toArray, List.getElem_cons_zero, List.getElem_cons_succ] at z0 z1
    have y3 := (hx3.set_ 0 (.slice none 0 0)).set_ 1 (.string ⟨#[]⟩)
    simp only [List.setIfInBounds_toArray, List.set_cons_zero, List.set_cons_succ] at y3
    have hB7 : Below w.heap.size w ((w3.setCell ⟨w.heap.size + 1, 0, none⟩ (.slice none 0 0)).setCell ⟨w.heap.size + 1, 1, none⟩ (.string ⟨#[]⟩)) := (hB3.setCell (p := ⟨w.heap.size + 1, 0, none⟩) (Nat.le_succ _) _).setCell (p := ⟨w.heap.size + 1, 1, none⟩) (Nat.le_succ _) _
    have H7 := Lib.hid (And.intro y3 hB7)
    clear hb3 hx3 hB3 y3 hB7
    go_wp2_with (with_reducible refine end_at ?_)
    obtain ⟨y3, hB7⟩ := H7.out
    have hld := vol_load y3
    generalize (w3.setCell ⟨w.heap.size + 1, 0, none⟩ (.slice none 0 0)).setCell ⟨w.heap.size + 1, 1, none⟩ (.string ⟨#[]⟩) = W9 at *
    refine end_ret (v := .tuple #[.agg #[.slice none 0 0, .string ⟨#[]⟩], .int .i64 f]) (by simp [results, Tryz.results18, asAddr, hld]) rfl ⟨_, rfl, VolOut.none_ _ _, hB7⟩
end Go.Proofs.YtpkomloblhbkiaaGreatDoor
namespace Go.Proofs.YtpkomloblhbkiaaGreatDoor
open Go.RowKit
set_option maxRecDepth 100000 in
theorem sector_any (n a i : Nat) (x : Int) (w : World) (hn : n ≤ 64) (ha : a ≤ 1) (hi : i ≤ 64) :
    Calls Tryz.prog 60 #[.agg #[.int .i64 n, .int .i64 x], .int .i64 a, .int .i64 i] w fun e w' => e = .returned (.int .i64 ((3 + a * n + i : Nat) : Int)) ∧ Below w.heap.size w w' := by
  have h : a = 0 ∨ a = 1 := by omega
  rcases h with rfl | rfl
  · have e1 : ((3 + 0 * n + i : Nat) : Int) = 3 + (i : Int) := by omega
    rw [e1]
    go_enter Tryz.func60, Tryz.ntmps60
    go_wp2_with fail
    go_ret
    exact ⟨ret_int (by simp; try omega), by go_grown⟩
  · have e1 : ((3 + 1 * n + i : Nat) : Int) = 3 + (n : Int) + (i : Int) := by omega
    rw [e1]
    go_enter Tryz.func60, Tryz.ntmps60
    go_wp2_with fail
    go_ret
    exact ⟨ret_int (by simp; try omega), by go_grown⟩
def vsizeF (k : Nat) : Nat × Bool := if k = 5 then (1, true) else if k = 7 then (2, true) else if k = 11 then (4, true) else if k = 19 then (8, true) else if k = 35 then (16, true) else if k = 67 then (32, true) else if k = 131 then (64, true) else (0, false)
theorem vsizeF_ok {k : Nat} (h : (vsizeF k).2 = true) : ∃ j, j ≤ 6 ∧ (vsizeF k).1 = 2 ^ j ∧ k = 3 + 2 * 2 ^ j := by
  unfold vsizeF at h ⊢
  repeat' split at h
  all_goals first | (rename_i q; subst q; first | exact ⟨0, by decide, rfl, rfl⟩ | exact ⟨1, by decide, rfl, rfl⟩ | exact ⟨2, by decide, rfl, rfl⟩ | exact ⟨3, by decide, rfl, rfl⟩ | exact ⟨4, by decide, rfl, rfl⟩ | exact ⟨5, by decide, rfl, rfl⟩ | exact ⟨6, by decide, rfl, rfl⟩) | (simp at h)
theorem vsizeF_at : ∀ j, j < 7 → vsizeF (3 + 2 * 2 ^ j) = (2 ^ j, true) := by decide
set_option maxRecDepth 100000 in
set_option maxHeartbeats 2000000 in
theorem vsize_any (k : Nat) (w : World) (hk : k ≤ 1000000) :
    Calls Tryz.prog 57 #[.int .i64 k] w fun e w' => e = .returned (.tuple #[.int .i64 ((vsizeF k).1 : Nat), .bool (vsizeF k).2]) ∧ w = w' := by
  obtain ⟨⟨N, B⟩, hV⟩ : ∃ V, vsizeF k = V := ⟨_, rfl⟩
  rw [hV]
  have HV := Lib.hid hV
  clear hV
  dsimp only
  go_enter Tryz.func57, Tryz.ntmps57
  go_wp2_with fail
  go_loopw [4] (fun iv wr => w = wr ∧ ((iv = .int .i64 1 ∧ True) ∨ (iv = .int .i64 2 ∧ k ≠ 5) ∨ (iv = .int .i64 4 ∧ k ≠ 5 ∧ k ≠ 7) ∨ (iv = .int .i64 8 ∧ k ≠ 5 ∧ k ≠ 7 ∧ k ≠ 11) ∨ (iv = .int .i64 16 ∧ k ≠ 5 ∧ k ≠ 7 ∧ k ≠ 11 ∧ k ≠ 19) ∨ (iv = .int .i64 32 ∧ k ≠ 5 ∧ k ≠ 7 ∧ k ≠ 11 ∧ k ≠ 19 ∧ k ≠ 35) ∨ (iv = .int .i64 64 ∧ k ≠ 5 ∧ k ≠ 7 ∧ k ≠ 11 ∧ k ≠ 19 ∧ k ≠ 35 ∧ k ≠ 67) ∨ (iv = .int .i64 128 ∧ k ≠ 5 ∧ k ≠ 7 ∧ k ≠ 11 ∧ k ≠ 19 ∧ k ≠ 35 ∧ k ≠ 67 ∧ k ≠ 131))) (fun iv _ => 200 - (intOf iv).toNat)
  case atStart => exact ⟨rfl, .inl ⟨rfl, trivial⟩⟩
  case round =>
    obtain ⟨rfl, hrel⟩ := hrel
    rcases hrel with ⟨rfl, hn0⟩ | ⟨rfl, hn1⟩ | ⟨rfl, hn2⟩ | ⟨rfl, hn3⟩ | ⟨rfl, hn4⟩ | ⟨rfl, hn5⟩ | ⟨rfl, hn6⟩ | ⟨rfl, hn7⟩
    · by_cases hc : k = 5
      · subst hc
        have hv : (1, true) = (N, B) := HV.out
        injection hv with h1 h2
        subst h1 h2
        go_wp2_with fail
        go_ret2
        exact ⟨rfl, rfl⟩
      · have e1 : ((k : Int) == 5) = false := by simp; omega
        have e2 : ¬ (k : Int) = 5 := by omega
        go_wp2_with fail
        go_roundw
        case rel => exact ⟨by first | trivial | rfl, .inr (.inl ⟨rfl, by omega⟩)⟩
        case measure => simp [intOf]
    · by_cases hc : k = 7
      · subst hc
        have hv : (2, true) = (N, B) := HV.out
        injection hv with h1 h2
        subst h1 h2
        go_wp2_with fail
        go_ret2
        exact ⟨rfl, rfl⟩
      · have e1 : ((k : Int) == 7) = false := by simp; omega
        have e2 : ¬ (k : Int) = 7 := by omega
        go_wp2_with fail
        go_roundw
        case rel => exact ⟨by first | trivial | rfl, .inr (.inr (.inl ⟨rfl, by omega⟩))⟩
        case measure => simp [intOf]
    · by_cases hc : k = 11
      · subst hc
        have hv : (4, true) = (N, B) := HV.out
        injection hv with h1 h2
        subst h1 h2
        go_wp2_with fail
        go_ret2
        exact ⟨rfl, rfl⟩
      · have e1 : ((k : Int) == 11) = false := by simp; omega
        have e2 : ¬ (k : Int) = 11 := by omega
        go_wp2_with fail
        go_roundw
        case rel => exact ⟨by first | trivial | rfl, .inr (.inr (.inr (.inl ⟨rfl, by omega⟩)))⟩
        case measure => simp [intOf]
    · by_cases hc : k = 19
      · subst hc
        have hv : (8, true) = (N, B) := HV.out
        injection hv with h1 h2
        subst h1 h2
        go_wp2_with fail
        go_ret2
        exact ⟨rfl, rfl⟩
      · have e1 : ((k : Int) == 19) = false := by simp; omega
        have e2 : ¬ (k : Int) = 19 := by omega
        go_wp2_with fail
        go_roundw
        case rel => exact ⟨by first | trivial | rfl, .inr (.inr (.inr (.inr (.inl ⟨rfl, by omega⟩))))⟩
        case measure => simp [intOf]
    · by_cases hc : k = 35
      · subst hc
        have hv : (16, true) = (N, B) := HV.out
        injection hv with h1 h2
        subst h1 h2
        go_wp2_with fail
        go_ret2
        exact ⟨rfl, rfl⟩
      · have e1 : ((k : Int) == 35) = false := by simp; omega
        have e2 : ¬ (k : Int) = 35 := by omega
        go_wp2_with fail
        go_roundw
        case rel => exact ⟨by first | trivial | rfl, .inr (.inr (.inr (.inr (.inr (.inl ⟨rfl, by omega⟩)))))⟩
        case measure => simp [intOf]
    · by_cases hc : k = 67
      · subst hc
        have hv : (32, true) = (N, B) := HV.out
        injection hv with h1 h2
        subst h1 h2
        go_wp2_with fail
        go_ret2
        exact ⟨rfl, rfl⟩
      · have e1 : ((k : Int) == 67) = false := by simp; omega
        have e2 : ¬ (k : Int) = 67 := by omega
        go_wp2_with fail
        go_roundw
        case rel => exact ⟨by first | trivial | rfl, .inr (.inr (.inr (.inr (.inr (.inr (.inl ⟨rfl, by omega⟩))))))⟩
        case measure => simp [intOf]
    · by_cases hc : k = 131
      · subst hc
        have hv : (64, true) = (N, B) := HV.out
        injection hv with h1 h2
        subst h1 h2
        go_wp2_with fail
        go_ret2
        exact ⟨rfl, rfl⟩
      · have e1 : ((k : Int) == 131) = false := by simp; omega
        have e2 : ¬ (k : Int) = 131 := by omega
        go_wp2_with fail
        go_roundw
        case rel => exact ⟨by first | trivial | rfl, .inr (.inr (.inr (.inr (.inr (.inr (.inr (⟨rfl, by omega⟩)))))))⟩
        case measure => simp [intOf]
    · have hv : vsizeF k = (0, false) := by
        unfold vsizeF
        rw [if_neg (by omega), if_neg (by omega), if_neg (by omega), if_neg (by omega), if_neg (by omega), if_neg (by omega), if_neg (by omega)]
      have hv2 := hv.symm.trans HV.out
      injection hv2 with h1 h2
      subst h1 h2
      clear hv
      go_wp2_with fail
      go_ret2
      exact ⟨rfl, rfl⟩
/-- the bytes of a head -/
def vheadB (g a : Nat) (root : ByteArray) : ByteArray := joinW [g] true ++ ⟨#[UInt8.ofNat a]⟩ ++ root
set_option maxRecDepth 100000 in
set_option maxHeartbeats 1000000 in
theorem head_any (g a : Nat) (root : ByteArray) (w : World) (hg : g ≤ 1000000000) (ha : a ≤ 1) (hr : root.size = 32) :
    Calls Tryz.prog 42 #[.int .i64 g, .int .i64 a, .string root] w fun e w' => e = .returned (.string (vheadB g a root)) ∧ Below w.heap.size w w' := by
  have HJ := Lib.hid (fun W (h : Blk W w.heap.size 3 #[.int .i64 g]) (hW : w.heap.size < W.heap.size) => join_high [g] (some ⟨w.heap.size, 0, none⟩) 1 1 W (slr_new w [g] h hW) (by omega) (fun x hx => by rw [List.mem_singleton.1 hx]; omega) (by omega))
  have hH : vheadB g a root = joinW [g] true ++ ⟨#[UInt8.ofNat a]⟩ ++ root := rfl
  have hz := joinW_size [g] true
  have e3 : ((root.size : Int) != 32) = false := by simp; omega
  have e4 : ((root.size : Int) == 32) = true := by simp; omega
  have hu : IntKind.u8.wrap (a : Int) = (a : Int) := by
    have h : a = 0 ∨ a = 1 := by omega
    rcases h with rfl | rfl <;> decide
  rw [hH]
  generalize joinW [g] true = J at *
  clear hH
  go_enter Tryz.func42, Tryz.ntmps42
  go_wp2_with fail
  refine (HJ.out _ (Blk.new _ _ _) (by simp)).mono ?_
  rintro e w1 ⟨rfl, hb1⟩
  have HB1 : Hid (Below w.heap.size w w1) := Lib.hid (Below.trans (by go_grown) (hb1.mono (by simp)))
  clear hb1
  have hJ : J.size = 4 := by rw [hz]; rfl
  clear hz
  have hblk : Blk (w1.alloc (.cells #[.int .u8 (a : Int)] 5)) w1.heap.size 5 ([UInt8.ofNat a].map vB).toArray := by
    have h : a = 0 ∨ a = 1 := by omega
    rcases h with rfl | rfl <;> exact Blk.new _ _ _
  have hcv := run_blk (P := Tryz.prog) (L := [UInt8.ofNat a]) (n := 1) (c := 1) 113 9 5 Tryz.underlying113 Tryz.underlying5 Tryz.underlying9 (by simp) hblk
  clear hblk
  go_wp2_with (with_reducible refine end_at ?_)
  refine end_ret (v := .string (J ++ ⟨#[UInt8.ofNat a]⟩ ++ root)) (by simp [results, Tryz.results42]) rfl ⟨rfl, HB1.out.alloc HB1.out.size _⟩
def wordB (s : ByteArray) : Nat := (cutW (s.extract 0 4) true).getD 0 0
/-- what a head tells -/
def headV (s : ByteArray) : Option (Nat × Nat × ByteArray) :=
  if s.size = 37 then (if wordB s ≤ 1000000000 ∧ byteAt s 4 ≤ 1 then some (wordB s, byteAt s 4, s.extract 5 37) else none) else none
def headO (h : Option (Nat × Nat × ByteArray)) : Value := match h with
  | some (g, a, root) => .tuple #[.int .i64 (g : Int), .int .i64 (a : Int), .string root, .bool true]
  | none => .tuple #[.int .i64 0, .int .i64 0, .string ⟨#[]⟩, .bool false]
set_option maxRecDepth 100000 in
set_option maxHeartbeats 1000000 in
theorem readHead_any (s : ByteArray) (w : World) (hs : s.size ≤ 140737488351232) :
    Calls Tryz.prog 58 #[.string s] w fun e w' => e = .returned (headO (headV s)) ∧ Below w.heap.size w w' := by
  by_cases h37 : s.size = 37
  · have hx : (s.extract 0 4).size = 4 := by rw [ByteArray.size_extract]; omega
    have HC := Lib.hid (cut_high (s.extract 0 4) w (by rw [hx]) (by rw [hx]; omega))
    rw [hx] at HC
    obtain ⟨W, hW⟩ : ∃ W, wordB s = W := ⟨_, rfl⟩
    have hL : cutW (s.extract 0 4) true = [W] := by
      have h1 : (cutW (s.extract 0 4) true).length = 1 := by unfold cutW; rw [cutTo_len, hx]
      have h2 : wordB s = W := hW
      unfold wordB at h2
      generalize cutW (s.extract 0 4) true = L at *
      match L, h1 with
      | [x], _ => simp at h2; rw [h2]
    rw [hL] at HC
    obtain ⟨b4, hb4⟩ : ∃ b, byteAt s 4 = b := ⟨_, rfl⟩
    have hb4' : s[4].toNat = b4 := by rw [byteAt_get]; exact hb4
    have hlt : b4 < 256 := by rw [← hb4]; exact byteAt_lt s 4
    have hF : headV s = if W ≤ 1000000000 ∧ b4 ≤ 1 then some (W, b4, s.extract 5 37) else none := by rw [headV, if_pos h37, hW, hb4]
    rw [hF]
    have HX := Lib.hid hb4'
    have hw64 : IntKind.u8.wrap (b4 : Int) = (b4 : Int) := by simp [IntKind.wrap, IntKind.bits, IntKind.signed]; omega
    have e1 : ((s.size : Int) != 37) = false := by simp; omega
    have e2 : ((s.size : Int) == 37) = true := by simp; omega
    have e3 : ((4 : Nat) : Int) ≤ (s.size : Int) := by omega
    clear hF hW hb4 hL hx
    by_cases hW1 : W ≤ 1000000000
    · have i1 : ¬ (1000000000 : Int) < (W : Int) := by omega
      by_cases hb1 : b4 ≤ 1
      · rw [if_pos ⟨hW1, hb1⟩]
        go_enter Tryz.func58, Tryz.ntmps58
        go_wp2_with fail
        refine HC.out.mono ?_
        rintro e w1 ⟨g, rfl, hR, hg, hB⟩
        have cR : w1.cell? ⟨g, 0, none⟩ = some (.int .i64 W) := hR.get (k := 0) rfl
        have HB := Lib.hid hB
        clear hR hB
        go_wp2_with fail
        go_big_quiet (fail)
        go_wp2_with (with_reducible refine end_at ?_)
        refine end_ret (v := .tuple #[.int .i64 W, .int .i64 b4, .string (s.extract 5 37), .bool true]) (by simp [results, Tryz.results58]) rfl ⟨rfl, below_drewN HB.out _⟩
      · rw [if_neg (fun h => hb1 h.2)]
        have i2 : (1 : Int) < (b4 : Int) := by omega
        go_enter Tryz.func58, Tryz.ntmps58
        go_wp2_with fail
        refine HC.out.mono ?_
        rintro e w1 ⟨g, rfl, hR, hg, hB⟩
        have cR : w1.cell? ⟨g, 0, none⟩ = some (.int .i64 W) := hR.get (k := 0) rfl
        have HB := Lib.hid hB
        clear hR hB
        go_wp2_with (with_reducible refine end_at ?_)
        refine end_ret (v := .tuple #[.int .i64 0, .int .i64 0, .string ⟨#[]⟩, .bool false]) (by simp [results, Tryz.results58]) rfl ⟨rfl, HB.out⟩
    · rw [if_neg (fun h => hW1 h.1)]
      have i1 : (1000000000 : Int) < (W : Int) := by omega
      go_enter Tryz.func58, Tryz.ntmps58
      go_wp2_with fail
      refine HC.out.mono ?_
      rintro e w1 ⟨g, rfl, hR, hg, hB⟩
      have cR : w1.cell? ⟨g, 0, none⟩ = some (.int .i64 W) := hR.get (k := 0) rfl
      have HB := Lib.hid hB
      clear hR hB
      go_wp2_with (with_reducible refine end_at ?_)
      refine end_ret (v := .tuple #[.int .i64 0, .int .i64 0, .string ⟨#[]⟩, .bool false]) (by simp [results, Tryz.results58]) rfl ⟨rfl, HB.out⟩
  · rw [show headV s = none by rw [headV, if_neg h37]]
    have e1 : ((s.size : Int) != 37) = true := by simp; omega
    have e2 : ((s.size : Int) == 37) = false := by simp; omega
    go_enter Tryz.func58, Tryz.ntmps58
    go_wp2_with (with_reducible refine end_at ?_)
    refine end_ret (v := .tuple #[.int .i64 0, .int .i64 0, .string ⟨#[]⟩, .bool false]) (by simp [results, Tryz.results58]) rfl ⟨rfl, Below.refl _ _⟩
end Go.Proofs.YtpkomloblhbkiaaGreatDoor
