/- volume: copied, rooted, Format. -/
import Derived.Test.YtpkomloblhbkiaaGreatDoorVolA
import Derived.BigQuiet
import Derived.Test.YtpkomloblhbkiaaGreatDoorPlatK
import Derived.BigRegion
set_option linter.unusedVariables false
set_option linter.unusedSimpArgs false
/- volume: has, Check, fit, rooted; vault.rooted. -/
namespace Go.Proofs.YtpkomloblhbkiaaGreatDoor
open Go.RowKit
theorem txt_eq {a b : ByteArray} (h : a = b) : (a.toList == b.toList) = true ∧ (a.toList != b.toList) = false := by rw [h]; simp
theorem txt_ne {a b : ByteArray} (h : a ≠ b) : (a.toList == b.toList) = false ∧ (a.toList != b.toList) = true := by
  constructor
  · simp only [beq_eq_false_iff_ne, ne_eq]
    exact fun e => h (bytes_ext e)
  · simp only [bne_iff_ne, ne_eq]
    exact fun e => h (bytes_ext e)
def bigB (b : ByteArray) : Bool := decide (92 < b.size)
def volB (v : Vol) : Bool := countI v.blocks.length && (decide (v.root.size = 32) && !v.blocks.any bigB)
theorem volB_iff (v : Vol) : volB v = true ↔ countI v.blocks.length = true ∧ v.root.size = 32 ∧ ∀ b ∈ v.blocks, b.size ≤ 92 := by
  unfold volB bigB
  simp only [Bool.and_eq_true, decide_eq_true_eq, Bool.not_eq_true', List.any_eq_false, Nat.not_lt]
theorem count_may {n : Nat} (h : countI n = true) : mayB n = true ∧ 1 ≤ n ∧ n ≤ 64 := by
  simp only [countI, Bool.and_eq_true, decide_eq_true_eq, Int.toNat_natCast] at h
  obtain ⟨h1, h2, h3⟩ := h
  refine ⟨?_, by omega, by omega⟩
  simp only [mayB, Bool.and_eq_true, decide_eq_true_eq]
  exact ⟨by omega, by omega, h3⟩
set_option maxRecDepth 100000 in
set_option maxHeartbeats 1000000 in
theorem vcheck_any (v : Vol) (A : Option Addr) (n c : Nat) (w : World) (hL : SlR encS 1 w w.heap.size A n v.blocks) (hs : ∀ s ∈ v.blocks, s.size ≤ 140737488351232) (hr : v.root.size ≤ 140737488351232) :
    Calls Tryz.prog 50 #[.agg #[.slice A n c, .string v.root]] w fun e w' => e = .returned (.bool (volB v)) ∧ Below w.heap.size w w' := by
  obtain ⟨L, root⟩ := v
  dsimp only at *
  have hl := hL.1
  have HC := Lib.hid (fun W => count_any n W)
  cases hc : countI n
  · have hv : volB ⟨L, root⟩ = false := by unfold volB; dsimp only; rw [hl, hc]; rfl
    rw [hv]
    rw [hc] at HC
    clear hL hl hc hv hs
    go_enter Tryz.func50, Tryz.ntmps50
    go_wp2_with fail
    refine (HC.out _).mono ?_
    rintro e w1 ⟨rfl, rfl⟩
    go_wp2_with fail
    go_ret
    exact ⟨rfl, by go_grown⟩
  · by_cases h32 : root.size = 32
    · have hv : volB ⟨L, root⟩ = !L.any bigB := by unfold volB; dsimp only; rw [hl, hc]; simp [h32]
      rw [hv]
      obtain ⟨_, hn1, hn64⟩ := count_may hc
      rcases hL.2 with h0 | ⟨b, off, rfl, hb, hC⟩
      · omega
      have HCC : Hid (∀ W, Below w.heap.size w W → ∀ (i : Nat) (x : ByteArray), L[i]? = some x → W.cell? ⟨b, off + i, none⟩ = some (.string x)) := Lib.hid (fun W hW i x hx => (hC.below hW hb).str hx)
      have HL := Lib.hid hl
      have HSZ := Lib.hid hs
      rw [hc] at HC
      have e1 : ((root.size : Int) != 32) = false := by simp; omega
      have e2 : ((root.size : Int) == 32) = true := by simp; omega
      have HV : Hid (∀ (i : Nat) (x : ByteArray), L[i]? = some x → 92 < x.size → (!L.any bigB) = false) := Lib.hid (fun i x hx h => by
        have : L.any bigB = true := List.any_eq_true.2 ⟨x, List.mem_of_getElem? hx, by simp [bigB, h]⟩
        rw [this]; rfl)
      have HV2 : Hid ((∀ (i : Nat) (x : ByteArray), L[i]? = some x → x.size ≤ 92) → (!L.any bigB) = true) := Lib.hid (fun h => by
        have : L.any bigB = false := List.any_eq_false.2 (fun x hx => by
          obtain ⟨i, hi⟩ := List.getElem?_of_mem hx
          have := h i x hi
          simp [bigB]; omega)
        rw [this]; rfl)
      generalize (!L.any bigB) = V at *
      clear hL hl hc hv hs hC hb
      go_enter Tryz.func50, Tryz.ntmps50
      go_wp2_with fail
      refine (HC.out _).mono ?_
      rintro e w1 ⟨rfl, rfl⟩
      go_wp2_with fail
      go_loopw [19] (fun iv wr => ∃ i : Nat, i ≤ n ∧ iv = .int .i64 i ∧ Hid (∀ (j : Nat) (x : ByteArray), j < i → L[j]? = some x → x.size ≤ 92) ∧ Hid (Below w.heap.size w wr)) (fun iv _ => n - (intOf iv).toNat)
      case atStart => exact ⟨0, by omega, rfl, Lib.hid (fun j x hj _ => by omega), Lib.hid (by go_grown)⟩
      case round =>
        obtain ⟨i, hi, rfl, HU, HB⟩ := hrel
        by_cases hlt : i < n
        · obtain ⟨x, hx⟩ : ∃ x, L[i]? = some x := ⟨_, List.getElem?_eq_getElem (by rw [HL.out]; exact hlt)⟩
          have cx := HCC.out wr HB.out i x hx
          have i0 : (0 : Int) ≤ (i : Int) := by omega
          have i1 : (i : Int) < (n : Int) := by omega
          have HX := Lib.hid hx
          clear hx
          by_cases hbig : 92 < x.size
          · have hVV := HV.out i x HX.out hbig
            subst hVV
            go_wp2_with fail
            go_ret
            exact ⟨rfl, HB.out⟩
          · have hbig2 : ¬ (92 : Int) < (x.size : Int) := by omega
            go_wp2_with fail
            go_roundw
            case rel => exact ⟨i + 1, by omega, by go_num, Lib.hid (fun j y hj hy => by
              by_cases hji : j = i
              · subst hji
                rw [HX.out] at hy
                injection hy with hy
                subst hy
                omega
              · exact HU.out j y (by omega) hy), HB⟩
            case measure => simp [intOf]; omega
        · have i1 : ¬ (i : Int) < (n : Int) := by omega
          have hVV := HV2.out (fun j x hx => HU.out j x (by have := (List.getElem?_eq_some_iff.1 hx).1; have := HL.out; omega) hx)
          subst hVV
          go_wp2_with fail
          go_ret
          exact ⟨rfl, HB.out⟩
    · have hv : volB ⟨L, root⟩ = false := by unfold volB; dsimp only; rw [hl, hc]; simp [h32]
      rw [hv]
      rw [hc] at HC
      have e1 : ((root.size : Int) != 32) = true := by simp; omega
      have e2 : ((root.size : Int) == 32) = false := by simp; omega
      clear hL hl hc hv hs
      go_enter Tryz.func50, Tryz.ntmps50
      go_wp2_with fail
      refine (HC.out _).mono ?_
      rintro e w1 ⟨rfl, rfl⟩
      go_wp2_with fail
      go_ret
      exact ⟨rfl, by go_grown⟩
/-- may a volume be read: what fit asks -/
def fitV (v : Vol) (there : Bool) : Int := if volB v = false then 160 else if there = false then 1 else if rootV v.blocks = v.root then 0 else 161
theorem vhas_any (g : Nat) (A : Option Addr) (n c : Nat) (root : ByteArray) (i : Int) (w : World) (hk : Blk w g 107 #[.slice A n c, .string root]) :
    Calls Tryz.prog 46 #[.pointer (some ⟨g, 0, none⟩), .int .i64 i] w fun e w' => e = .returned (.bool (hasI n i)) ∧ w = w' := by
  have q0 := hk.cells 0 _ rfl
  have q1 := hk.cells 1 _ rfl
  simp only [List.getElem_toArray, List.getElem_cons_zero, List.getElem_cons_succ] at q0 q1
  clear hk
  by_cases h0 : 0 ≤ i
  · have hv : hasI n i = decide (i < (n : Int)) := by simp [hasI, h0]
    rw [hv]
    clear hv
    go_enter Tryz.func46, Tryz.ntmps46
    go_wp2_with fail
    go_ret
    exact ⟨rfl, rfl⟩
  · have hv : hasI n i = false := by simp [hasI, h0]
    rw [hv]
    clear hv
    go_enter Tryz.func46, Tryz.ntmps46
    go_wp2_with fail
    go_ret
    exact ⟨rfl, rfl⟩
set_option maxRecDepth 100000 in
set_option maxHeartbeats 1000000 in
theorem vfit_any (v : Vol) (there : Bool) (g : Nat) (A : Option Addr) (n c : Nat) (w : World) (hk : Blk w g 107 #[.slice A n c, .string v.root]) (hL : SlR encS 1 w w.heap.size A n v.blocks) (hs : ∀ s ∈ v.blocks, s.size ≤ 140737488351232) (hr : v.root.size ≤ 140737488351232) (hE : Env w) :
    Calls Tryz.prog 45 #[.pointer (some ⟨g, 0, none⟩), .int .i64 0, .bool there] w fun e w' => e = .returned (.int .i64 (fitV v there)) ∧ Below w.heap.size w w' := by
  have HC := Lib.hid (vcheck_any v A n c w hL hs hr)
  have q0 := hk.cells 0 _ rfl
  have q1 := hk.cells 1 _ rfl
  simp only [List.getElem_toArray, List.getElem_cons_zero, List.getElem_cons_succ] at q0 q1
  cases hc : volB v
  · have hv : fitV v there = 160 := by rw [fitV, if_pos hc]
    rw [hv]
    rw [hc] at HC
    clear hk hL hs hr hE hc hv
    obtain ⟨L, root⟩ := v
    dsimp only at *
    go_enter Tryz.func45, Tryz.ntmps45
    go_wp2_with fail
    refine HC.out.mono ?_
    rintro e w1 ⟨rfl, hb1⟩
    go_wp2_with fail
    go_ret
    exact ⟨rfl, hb1⟩
  · obtain ⟨hcn, h32, hall⟩ := (volB_iff v).1 hc
    have hl := hL.1
    rw [hl] at hcn
    obtain ⟨hm, hn1, hn64⟩ := count_may hcn
    cases there
    · have hv : fitV v false = 1 := by rw [fitV, if_neg (by rw [hc]; decide), if_pos rfl]
      rw [hv]
      rw [hc] at HC
      clear hk hL hs hr hE hc hv hcn hall
      obtain ⟨L, root⟩ := v
      dsimp only at *
      go_enter Tryz.func45, Tryz.ntmps45
      go_wp2_with fail
      refine HC.out.mono ?_
      rintro e w1 ⟨rfl, hb1⟩
      go_wp2_with fail
      go_ret
      exact ⟨rfl, hb1⟩
    · have hv : fitV v true = if rootV v.blocks = v.root then 0 else 161 := by rw [fitV, if_neg (by rw [hc]; decide), if_neg (by decide)]
      rw [hv]
      rw [hc] at HC
      have HR := Lib.hid (fun W (hW : Below w.heap.size w W) => troot_any v.blocks A n c W (hE.below hW).1 ((hL.below hW).more hW.size) (by omega) hs)
      rw [show rootE v.blocks = 0 by unfold rootE; rw [hl, if_pos hm]] at HR
      have HK := Lib.hid hk
      clear hL hs hr hE hc hv hcn hall hm hl hk
      obtain ⟨L, root⟩ := v
      dsimp only at *
      generalize rootV L = a at *
      by_cases hq : a = root
      · rw [if_pos hq]
        obtain ⟨e1, e2⟩ := txt_eq hq
        clear hq
        go_enter Tryz.func45, Tryz.ntmps45
        go_wp2_with fail
        refine HC.out.mono ?_
        rintro e w1 ⟨rfl, hb1⟩
        have HB1 := Lib.hid hb1
        have hk1 := HK.out.below hb1 HK.out.lt
        have q0 := hk1.cells 0 _ rfl
        have q1 := hk1.cells 1 _ rfl
        simp only [List.getElem_toArray, List.getElem_cons_zero, List.getElem_cons_succ] at q0 q1
        clear hk1 hb1
        go_wp2_with fail
        refine (HR.out _ HB1.out).mono ?_
        rintro e w2 ⟨rfl, hb2⟩
        have HB2 := Lib.hid (HB1.out.trans (hb2.mono HB1.out.size))
        have hk2 := HK.out.below HB2.out HK.out.lt
        have q0 := hk2.cells 0 _ rfl
        have q1 := hk2.cells 1 _ rfl
        simp only [List.getElem_toArray, List.getElem_cons_zero, List.getElem_cons_succ] at q0 q1
        clear hk2 hb2
        go_wp2_with fail
        go_ret
        exact ⟨rfl, HB2.out⟩
      · rw [if_neg hq]
        obtain ⟨e1, e2⟩ := txt_ne hq
        clear hq
        go_enter Tryz.func45, Tryz.ntmps45
        go_wp2_with fail
        refine HC.out.mono ?_
        rintro e w1 ⟨rfl, hb1⟩
        have HB1 := Lib.hid hb1
        have hk1 := HK.out.below hb1 HK.out.lt
        have q0 := hk1.cells 0 _ rfl
        have q1 := hk1.cells 1 _ rfl
        simp only [List.getElem_toArray, List.getElem_cons_zero, List.getElem_cons_succ] at q0 q1
        clear hk1 hb1
        go_wp2_with fail
        refine (HR.out _ HB1.out).mono ?_
        rintro e w2 ⟨rfl, hb2⟩
        have HB2 := Lib.hid (HB1.out.trans (hb2.mono HB1.out.size))
        have hk2 := HK.out.below HB2.out HK.out.lt
        have q0 := hk2.cells 0 _ rfl
        have q1 := hk2.cells 1 _ rfl
        simp only [List.getElem_toArray, List.getElem_cons_zero, List.getElem_cons_succ] at q0 q1
        clear hk2 hb2
        go_wp2_with fail
        go_ret
        exact ⟨rfl, HB2.out⟩
/-- vault.rooted -/
def rootedB (v : Vol) : Bool := mayB v.blocks.length && decide (rootV v.blocks = v.root)
set_option maxRecDepth 100000 in
theorem vrooted_any (v : Vol) (A : Option Addr) (n c : Nat) (w : World) (hL : SlR encS 1 w w.heap.size A n v.blocks) (hn : n ≤ 1000) (hs : ∀ s ∈ v.blocks, s.size ≤ 140737488351232) (hE : Env w) :
    Calls Tryz.prog 51 #[.agg #[.slice A n c, .string v.root]] w fun e w' => e = .returned (.bool (rootedB v)) ∧ Below w.heap.size w w' := by
  have hl := hL.1
  have HR := Lib.hid (fun W (hW : Below w.heap.size w W) => troot_any v.blocks A n c W (hE.below hW).1 ((hL.below hW).more hW.size) (by omega) hs)
  obtain ⟨L, root⟩ := v
  dsimp only at *
  clear hL hs hE
  unfold rootE at HR
  have HB0 : Hid (Below w.heap.size w (w.alloc (.cells #[.slice A n c, .string root] 36))) := Lib.hid (by go_grown)
  cases hm : mayB L.length
  · have hv : rootedB ⟨L, root⟩ = false := by simp [rootedB, hm]
    rw [hv]
    rw [if_neg (by rw [hm]; decide)] at HR
    clear hm hv
    generalize rootV L = a at *
    go_enter Tryz.func51, Tryz.ntmps51
    go_wp2_with fail
    refine (HR.out _ HB0.out).mono ?_
    rintro e w2 ⟨rfl, hb2⟩
    go_wp2_with fail
    go_ret
    exact ⟨rfl, HB0.out.trans (hb2.mono HB0.out.size)⟩
  · have hv : rootedB ⟨L, root⟩ = decide (rootV L = root) := by simp [rootedB, hm]
    rw [hv]
    rw [if_pos hm] at HR
    clear hm hv
    generalize rootV L = a at *
    by_cases hq : a = root
    · rw [show decide (a = root) = true by simp [hq]]
      obtain ⟨e1, e2⟩ := txt_eq hq
      clear hq
      go_enter Tryz.func51, Tryz.ntmps51
      go_wp2_with fail
      refine (HR.out _ HB0.out).mono ?_
      rintro e w2 ⟨rfl, hb2⟩
      have HB2 := Lib.hid (HB0.out.trans (hb2.mono HB0.out.size))
      have hk2 := (Blk.new w 36 #[.slice A n c, .string root]).below hb2 (by simp)
      have q1 := hk2.cells 1 _ rfl
      simp only [List.getElem_toArray, List.getElem_cons_zero, List.getElem_cons_succ] at q1
      clear hk2 hb2
      go_wp2_with fail
      go_ret
      exact ⟨rfl, HB2.out⟩
    · rw [show decide (a = root) = false by simp [hq]]
      obtain ⟨e1, e2⟩ := txt_ne hq
      clear hq
      go_enter Tryz.func51, Tryz.ntmps51
      go_wp2_with fail
      refine (HR.out _ HB0.out).mono ?_
      rintro e w2 ⟨rfl, hb2⟩
      have HB2 := Lib.hid (HB0.out.trans (hb2.mono HB0.out.size))
      have hk2 := (Blk.new w 36 #[.slice A n c, .string root]).below hb2 (by simp)
      have q1 := hk2.cells 1 _ rfl
      simp only [List.getElem_toArray, List.getElem_cons_zero, List.getElem_cons_succ] at q1
      clear hk2 hb2
      go_wp2_with fail
      go_ret
      exact ⟨rfl, HB2.out⟩
end Go.Proofs.YtpkomloblhbkiaaGreatDoor
namespace Go.Proofs.YtpkomloblhbkiaaGreatDoor
open Go.RowKit
/-- a row of one's own of which the block lies below B -/
theorem own_lt_below {w w' : World} {base B sz n : Nat} {e : TypeId} {v : Value} {xs : List Value} (h : w.ownsRow base e sz v n xs) (hv : ∀ k, v.ownBlock = some k → k < B) (hb : Below B w w') : w'.ownsRow base e sz v n xs := by
  refine ⟨h.1, ?_⟩
  rcases h.2 with hn | ⟨g, cap, cur, rfl, hb', hg, rest⟩
  · exact .inl hn
  · exact .inr ⟨g, cap, cur, rfl, hb', (hb.block g (hv g (by simp [Value.ownBlock]))).trans hg, rest⟩
theorem flat_strs (L : List ByteArray) : flat encS L = L.map Value.string := by
  induction L with
  | nil => rfl
  | cons x L ih => rw [List.map_cons, ← ih]; rfl
/-- an element of a row of one's own, stored -/
theorem srow_set {w : World} {base n c i : Nat} {A : Option Addr} {L : List ByteArray} (h : SRow w base (.slice A n c) L) (hn : L.length = n) (hi : i < n) (s : ByteArray) :
    ∃ (g : Nat) (x : ByteArray), A = some ⟨g, 0, none⟩ ∧ base ≤ g ∧ g < w.heap.size ∧ w.cell? ⟨g, i, none⟩ = some (.string x) ∧ (∀ k, w.frozen? ⟨g, k, none⟩ = false) ∧ SRow (w.setCell ⟨g, i, none⟩ (.string s)) base (.slice A n c) (L.set i s) := by
  rcases h.2 with ⟨_, h0⟩ | ⟨g, cap, cur, hv, hb, hk, h1, h2, h3, h4⟩
  · omega
  · injection hv with e1 e2 e3
    subst e1
    have hk' : Blk w g 9 cur := hk
    rw [hn] at h1 h4
    have h4' : cur.toList.take (n * 1) = L.map Value.string := by rw [← flat_strs]; exact h4
    rw [Nat.mul_one] at h4'
    have hsz : cur.size = cap := by simpa using h3
    have hx : cur[i]? = some (.string L[i]) := by
      have h5 : (cur.toList.take n)[i]? = some (.string L[i]) := by rw [h4']; simp [show i < L.length by omega]
      rw [List.getElem?_take_of_lt hi] at h5
      simpa using h5
    refine ⟨g, L[i], rfl, hb, hk'.lt, hk'.cells i _ hx, hk'.frozen, ?_⟩
    refine ⟨by rw [flat_length encS_len], .inr ⟨g, cap, _, ?_, hb, hk'.set_ i (.string s), by rw [List.length_set, hn]; exact h1, h2, by simpa using h3, ?_⟩⟩
    · rw [List.length_set, hn]; rw [← e3]
    · rw [List.length_set, hn, Nat.mul_one, flat_strs]
      simp only [Array.toList_setIfInBounds]
      rw [List.take_set, h4', List.map_set]
def VolOut (w' : World) (B : Nat) (v : Value) (x : Vol) : Prop := ∃ A c, v = .agg #[.slice A x.blocks.length c, .string x.root] ∧ Hid (SRow w' B (.slice A x.blocks.length c) x.blocks)
theorem VolOut.none_ (w' : World) (B : Nat) : VolOut w' B (.agg #[.slice none 0 0, .string ⟨#[]⟩]) noVol := ⟨none, 0, rfl, Lib.hid (srow_nil _ _)⟩
set_option maxRecDepth 100000 in
set_option maxHeartbeats 1000000 in
theorem vcopied_any (L : List ByteArray) (root : ByteArray) (A : Option Addr) (n c : Nat) (w : World) (hL : SlR encS 1 w w.heap.size A n L) (hn : n ≤ 1000) :
    Calls Tryz.prog 48 #[.agg #[.slice A n c, .string root]] w fun e w' => ∃ (g : Nat) (A1 : Option Addr) (c1 : Nat), e = .returned (.pointer (some ⟨g, 0, none⟩)) ∧ Hid (SRow w' w.heap.size (.slice A1 n c1) L) ∧ Hid (Blk w' g 107 #[.slice A1 n c1, .string root]) ∧ w.heap.size ≤ g ∧ (∀ k, (Value.slice A1 n c1).ownBlock = some k → k < g) ∧ Below w.heap.size w w' := by
  obtain ⟨i0, hi0, hz0, hz1, hz2⟩ := info_parts str_info
  have hl := hL.1
  have HB0 : Hid (Below w.heap.size w (w.alloc (.cells #[.slice A n c, .string root] 36))) := Lib.hid (by go_grown)
  have HS : Hid (∀ W, Below w.heap.size w W → Reads W w.heap.size 1 A n (flat encS L)) := Lib.hid (fun W hW => (hL.below hW).reads encS_len)
  have HL := Lib.hid hl
  have hk := Blk.new w 36 #[.slice A n c, .string root]
  have q0 := hk.cells 0 _ rfl
  have q1 := hk.cells 1 _ rfl
  simp only [List.getElem_toArray, List.getElem_cons_zero, List.getElem_cons_succ] at q0 q1
  have HK := Lib.hid hk
  clear hL hl hk
  go_enter Tryz.func48, Tryz.ntmps48
  go_wp2_with fail
  refine wp_region_held_drew (S := fun W => Below (w.alloc (.cells #[.slice A n c, .string root] 36)).heap.size (w.alloc (.cells #[.slice A n c, .string root] 36)) W ∧ W.cell? ⟨w.heap.size, 0, none⟩ = some (.slice A n c) ∧ W.cell? ⟨w.heap.size, 1, none⟩ = some (.string root)) (by kernel_rfl) (⟨(Below.refl _ _).drew, q0, q1⟩) (fun hHeld => ?_)
  refine wpAnyH_take (i := 0) (v := ?v1) rfl (by kernel_rfl) (by kernel_rfl) (by kernel_rfl) (fun _ _ _ h => h) (Or.inl ⟨by rfl, ?hy1⟩) hHeld ?rest1
  case hy1 => (intro w hSw; (try dsimp only at hSw); go_simp; try with_reducible rfl)
  try simp only [Act.put, lst]
  refine wpAnyH_take (i := 1) (v := ?v2) rfl (by kernel_rfl) (by kernel_rfl) (by kernel_rfl) (fun _ _ _ h => h) (Or.inl ⟨by rfl, ?hy2⟩) hHeld ?rest2
  case hy2 => (intro w hSw; (try dsimp only at hSw); go_simp; try with_reducible rfl)
  try simp only [Act.put, lst]
  refine wpAnyH_take (i := 3) (v := ?v3) rfl (by kernel_rfl) (by kernel_rfl) (by kernel_rfl) (fun _ _ _ h => h) (Or.inl ⟨by rfl, ?hy3⟩) hHeld ?rest3
  case hy3 => (intro w hSw; (try dsimp only at hSw); go_simp; try with_reducible rfl)
  try simp only [Act.put, lst]
  refine wpAnyH_take (i := 4) (v := ?v4) rfl (by kernel_rfl) (by kernel_rfl) (by kernel_rfl) (fun _ _ _ h => h) (Or.inl ⟨by rfl, ?hy4⟩) hHeld ?rest4
  case hy4 => (intro w hSw; (try dsimp only at hSw); go_simp; try with_reducible rfl)
  try simp only [Act.put, lst]
  refine wpAnyH_ready (rs := [2]) (by kernel_rfl) (by simp) ?_
  refine AllReadyH.cons rfl (fun K hK => ?_) AllReadyH.nil
  have hPrev := Lib.hid hHeld
  clear hHeld
  have hPB : Below (w.alloc (.cells #[.slice A n c, .string root] 36)).heap.size (w.alloc (.cells #[.slice A n c, .string root] 36)) _ := hPrev.out.1
  refine wp_append_any _ (.const (.slice none 0 0)) (.tmp 4) _ rfl (w.alloc (.cells #[.slice A n c, .string root] 36)).heap.size _ i0 _ 1 16 Tryz.underlying30 hi0 hz0 hz1 hz2 rfl (by omega) (.slice none 0 0) 0 [] rfl (World.ownsRow_nil _ _ _ _) w.heap.size A n c (flat encS L) (by simp [Act.eval]) (HS.out _ (HB0.out.trans (hPB.mono HB0.out.size))) (one_flatS L) (by simp only [maxLen]; omega) (by omega) hPB.size ?_
  intro v1 w2 hown1 hg1 hat1
  obtain ⟨A1, c1, rfl, _, _, _⟩ := own_form hown1
  simp only [Nat.zero_add, List.nil_append] at hown1 ⊢
  have HB2 : Hid (Below (w.alloc (.cells #[.slice A n c, .string root] 36)).heap.size (w.alloc (.cells #[.slice A n c, .string root] 36)) w2) := Lib.hid (Below.grown hPB hg1 hPB.size (by simp [Value.ownBlock]))
  have hk2 := HK.out.below HB2.out HK.out.lt
  have HO2 := Lib.hid hown1
  have qa := hk2.cells 0 _ rfl
  have qb := hk2.cells 1 _ rfl
  simp only [List.getElem_toArray, List.getElem_cons_zero, List.getElem_cons_succ] at qa qb
  refine hK.out _ _ (⟨HB2.out, qa, qb⟩) (fun hHeld => ?_)
  clear hK K hPrev
  try simp only [Act.put, lst]
  refine wpAnyH_take (i := 5) (v := ?v6) rfl (by kernel_rfl) (by kernel_rfl) (by kernel_rfl) (fun _ _ _ h => h) (Or.inl ⟨by rfl, ?hy6⟩) hHeld ?rest6
  case hy6 => (intro w hSw; (try dsimp only at hSw); go_simp; try with_reducible rfl)
  try simp only [Act.put, lst]
  refine wpAnyH_take (i := 6) (v := ?v7) rfl (by kernel_rfl) (by kernel_rfl) (by kernel_rfl) (fun _ _ _ h => h) (Or.inl ⟨by rfl, ?hy7⟩) hHeld ?rest7
  case hy7 => (intro w hSw; (try dsimp only at hSw); go_simp; try with_reducible rfl)
  try simp only [Act.put, lst]
  refine wpAnyH_ready (rs := [7]) (by kernel_rfl) (by simp) ?_
  refine AllReadyH.cons rfl (fun K hK => ?_) AllReadyH.nil
  have hPrev := Lib.hid hHeld
  clear hHeld
  go_simp
  have hB3 : Below (w.alloc (.cells #[.slice A n c, .string root] 36)).heap.size (w.alloc (.cells #[.slice A n c, .string root] 36)) (w2.alloc (.cells #[.slice A1 n c1, .string root] 107)) := HB2.out.alloc HB2.out.size _
  have hx3 : Blk (w2.alloc (.cells #[.slice A1 n c1, .string root] 107)) w2.heap.size 107 #[.slice A1 n c1, .string root] := Blk.new _ _ _
  have ho3 : (w2.alloc (.cells #[.slice A1 n c1, .string root] 107)).ownsRow w.heap.size 9 1 (.slice A1 n c1) n (flat encS L) := own_base (World.ownsRow.alloc HO2.out _) (by simp)
  have HE : Hid (Below (w.alloc (.cells #[.slice A n c, .string root] 36)).heap.size (w.alloc (.cells #[.slice A n c, .string root] 36)) (w2.alloc (.cells #[.slice A1 n c1, .string root] 107)) ∧ SRow (w2.alloc (.cells #[.slice A1 n c1, .string root] 107)) w.heap.size (.slice A1 n c1) L ∧ Blk (w2.alloc (.cells #[.slice A1 n c1, .string root] 107)) w2.heap.size 107 #[.slice A1 n c1, .string root] ∧ ∀ k, (Value.slice A1 n c1).ownBlock = some k → k < w2.heap.size) := Lib.hid ⟨hB3, orow_join ho3 L HL.out.symm rfl, hx3, fun k hk => (World.ownsRow.lt HO2.out k hk).2⟩
  have hk3 := HK.out.below hB3 HK.out.lt
  have qc := hk3.cells 0 _ rfl
  have qd := hk3.cells 1 _ rfl
  simp only [List.getElem_toArray, List.getElem_cons_zero, List.getElem_cons_succ] at qc qd
  refine hK.out _ _ (⟨hB3, qc, qd⟩) (fun hHeld => ?_)
  clear hK K hPrev
  try simp only [Act.put, lst]
  refine wpAnyH_take (i := 8) (v := ?v9) rfl (by kernel_rfl) (by kernel_rfl) (by kernel_rfl) (fun _ _ _ h => h) (Or.inl ⟨by rfl, ?hy9⟩) hHeld ?rest9
  case hy9 => (intro w hSw; (try dsimp only at hSw); go_simp; try with_reducible rfl)
  try simp only [Act.put, lst]
  refine wpAnyH_done (by kernel_rfl) ?_ _
  obtain ⟨hB3, hs2, hx2, hlt2⟩ := HE.out
  go_wp2_with (with_reducible refine end_at ?_)
  refine end_ret (v := .pointer (some ⟨w2.heap.size, 0, none⟩)) (by simp [results, Tryz.results48]) rfl ⟨_, A1, c1, rfl, Lib.hid hs2, Lib.hid hx2, ?_, ?_, HB0.out.trans (hB3.mono HB0.out.size)⟩
  · have := HB2.out.size
    simp at this
    omega
  · exact hlt2
theorem vol_load {W : World} {g n c : Nat} {A : Option Addr} {r : ByteArray} (h : Blk W g 36 #[.slice A n c, .string r]) : (loadVar 36 ⟨g, 0, none⟩).run Tryz.prog W = .ok (.agg #[.slice A n c, .string r]) W :=
  run_loadVar_row (P := Tryz.prog) W g 36 36 #[.slice A n c, .string r] (0, 0) _ h Tryz.underlying36 rfl (by kernel_rfl)
set_option maxRecDepth 100000 in
set_option maxHeartbeats 1000000 in
theorem wrooted_any (L : List ByteArray) (root : ByteArray) (g : Nat) (A : Option Addr) (n c : Nat) (w : World) (hk : Blk w g 107 #[.slice A n c, .string root]) (hL : SlR encS 1 w w.heap.size A n L) (hm : mayB n = true) (hs : ∀ s ∈ L, s.size ≤ 140737488351232) (hE : Env w) :
    Calls Tryz.prog 49 #[.pointer (some ⟨g, 0, none⟩)] w fun e w' => e = .returned (.tuple #[.agg #[.slice A n c, .string (rootV L)], .int .i64 0]) ∧ Below g w w' := by
  have hl := hL.1
  have hn : n ≤ 1024 := by
    simp only [mayB, Bool.and_eq_true, decide_eq_true_eq] at hm
    omega
  have HR := Lib.hid (fun W (hW : Below w.heap.size w W) => troot_any L A n c W (hE.below hW).1 ((hL.below hW).more hW.size) (by omega) hs)
  rw [show rootE L = 0 by unfold rootE; rw [hl, if_pos hm]] at HR
  have HK := Lib.hid hk
  have hlt := hk.lt
  have HB0 : Hid (Below w.heap.size w (w.alloc (.cells #[.slice none 0 0, .string ⟨#[]⟩] 36))) := Lib.hid (by go_grown)
  have q0 := (hk.alloc (.cells #[.slice none 0 0, .string ⟨#[]⟩] 36)).cells 0 _ rfl
  simp only [List.getElem_toArray, List.getElem_cons_zero, List.getElem_cons_succ] at q0
  generalize rootV L = a at *
  clear hk hL hs hE hm hl
  go_enter Tryz.func49, Tryz.ntmps49
  go_wp2_with fail
  refine (HR.out _ HB0.out).mono ?_
  rintro e w1 ⟨rfl, hb1⟩
  have HB1 := Lib.hid (HB0.out.trans (hb1.mono HB0.out.size))
  have hk1 := HK.out.below HB1.out HK.out.lt
  have hx1 := (Blk.new w 36 #[.slice none 0 0, .string ⟨#[]⟩]).below hb1 (by simp)
  have r0 := hk1.cells 0 _ rfl
  have r1 := hk1.cells 1 _ rfl
  have rf := hk1.frozen
  have rl := hk1.lt
  have x0 := hx1.cells 0 _ rfl
  have x1 := hx1.cells 1 _ rfl
  have xf := hx1.frozen
  have xl := hx1.lt
  simp only [List.getElem_toArray, List.getElem_cons_zero, List.getElem_cons_succ] at r0 r1 x0 x1
  have s1 := hk1.set_ 1 (.string a)
  have hne : w.heap.size ≠ g := by omega
  have y1 := ((hx1.far (p := ⟨g, 1, none⟩) hne (.string a)).set_ 0 (.slice A n c)).set_ 1 (.string a)
  simp only [List.setIfInBounds_toArray, List.set_cons_zero, List.set_cons_succ] at s1 y1
  have HY := Lib.hid y1
  have HBZ : Hid (Below g w (((w1.setCell ⟨g, 1, none⟩ (.string a)).setCell ⟨w.heap.size, 0, none⟩ (.slice A n c)).setCell ⟨w.heap.size, 1, none⟩ (.string a))) :=
    Lib.hid ((((HB1.out.mono (show g ≤ w.heap.size by omega)).setCell (p := ⟨g, 1, none⟩) (Nat.le_refl _) (.string a)).setCell (p := ⟨w.heap.size, 0, none⟩) (by show g ≤ w.heap.size; omega) (.slice A n c)).setCell (p := ⟨w.heap.size, 1, none⟩) (by show g ≤ w.heap.size; omega) (.string a))
  have z0 := s1.cells 0 _ rfl
  have z1 := s1.cells 1 _ rfl
  simp only [List.getElem_toArray, List.getElem_cons_zero, List.getElem_cons_succ] at z0 z1
  clear hb1 hk1 hx1 s1 y1
  go_wp2_with (with_reducible refine end_at ?_)
  have hld := vol_load HY.out
  generalize ((w1.setCell ⟨g, 1, none⟩ (.string a)).setCell ⟨w.heap.size, 0, none⟩ (.slice A n c)).setCell ⟨w.heap.size, 1, none⟩ (.string a) = W9 at *
  refine end_ret (v := .tuple #[.agg #[.slice A n c, .string a], .int .i64 0]) (by simp [results, Tryz.results49, asAddr, hld]) rfl ⟨rfl, HBZ.out⟩
end Go.Proofs.YtpkomloblhbkiaaGreatDoor
