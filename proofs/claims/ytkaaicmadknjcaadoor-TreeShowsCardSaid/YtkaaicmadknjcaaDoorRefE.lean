/- the reference's spread. -/
import Derived.Test.YtkaaicmadknjcaaDoorRefD
import Derived.Deep.RegionHeld3
set_option linter.unusedVariables false
namespace Go.Proofs.YtkaaicmadknjcaaDoor
open Go.RowKit
theorem growTo_words {l : List Nat} (hw : words l) (k : Nat) : words (growTo l k) := by
  induction k with
  | zero => exact hw
  | succ k ih =>
    intro n hn
    rw [growTo] at hn
    rcases List.mem_append.1 hn with hn | hn
    · exact ih n hn
    · rw [List.mem_singleton.1 hn]; exact sumW_lt _
theorem irow_cell {w : World} {base n c g : Nat} {L : List Nat} (h : IRow w base (.slice (some ⟨g, 0, none⟩) n c) L) (hn : L.length = n) {k x : Nat} (hx : L[k]? = some x) : w.cell? ⟨g, k, none⟩ = some (.int .i64 x) := by
  subst hn
  have hk : k < L.length := (List.getElem?_eq_some_iff.1 hx).1
  have := h.cellAt k (by omega)
  rw [this]
  simp [ints, hx, vI]
theorem rkeep {wr w' : World} {base n c g k d : Nat} {L : List Nat} {u v : Nat} (h : IRow wr base (.slice (some ⟨g, 0, none⟩) n c) L) (hn : L.length = n) (hu : L[k]? = some u) (hv : L[d]? = some v) (hb : Below wr.heap.size wr w') :
    w'.cell? ⟨g, k, none⟩ = some (.int .i64 u) ∧ w'.cell? ⟨g, d, none⟩ = some (.int .i64 v) ∧ w'.ownsRow base 3 1 (.slice (some ⟨g, 0, none⟩) n c) n ((ints L).map vI) := by
  have h' := irow_below h hb (Nat.le_refl _)
  refine ⟨irow_cell h' hn hu, irow_cell h' hn hv, ?_⟩
  have : w'.ownsRow base 3 1 (.slice (some ⟨g, 0, none⟩) n c) L.length ((ints L).map vI) := h'
  rwa [hn] at this
theorem step_append_int {w : World} {base : Nat} {v : Value} {L : List Nat} {ops : Array Oper} {o : Oper} {a : Act} {K : Act → World → Prop} {Q : Exit → Act → World → Prop} {E : Prop} (hgd : o.guard = none) (s x : Operand)
    (ho : o.op = .call { callee := .builtin .append, args := #[s, x], argTypes := #[33, 33] })
    (hs : a.eval s = v) (hown : IRow w base v L) (g b : Nat) (hx : a.eval x = .slice (some ⟨g, 0, none⟩) 1 1) (hB : Blk w g 3 #[.int .i64 b]) (n : Nat) (hl : L.length = n) (L' : List Nat) (hL : L ++ [b] = L') (hn : n + 1 ≤ 1000000000) (hbase : base ≤ w.heap.size)
    (h : ∀ A c w', Hid (IRow w' base (.slice A (n + 1) c) L') → w.grownBy w' v.ownBlock → Below base w w' → K (a.put o.dst (.slice A (n + 1) c)) w') :
    if Region.wanted o (yielded ops a.tmps) = true then Oper.wp Tryd.prog o a w K Q else E := by
  subst hL
  obtain ⟨i0, hi0, hz0, hz1, hz2⟩ := info_parts int_info3
  refine step_append_any _ hgd s x _ ho base _ i0 _ 1 8 Tryd.underlying33 hi0 hz0 hz1 hz2 rfl (by omega) v L.length ((ints L).map vI) hs hown (g + 1) (some ⟨g, 0, none⟩) 1 1 [.int .i64 b] hx ?_ (by simp [Value.oneCell']) (by simp only [maxLen]; omega) (by omega) hbase ?_
  · refine ⟨rfl, fun _ => ⟨_, rfl, by simp, fun j u hu => ?_⟩⟩
    have hadd : (⟨g, 0, none⟩ : Addr).add j = ⟨g, j, none⟩ := by unfold Addr.add; split <;> simp_all
    rw [hadd, hB.cell]
    simpa using hu
  · intro v' w' h1 h2 _
    have h1' : IRow w' base v' (L ++ [b]) := irow_join h1 _ (by simp) (by simp [ints, vI])
    obtain ⟨A, c, rfl⟩ := irow_form h1'
    have hn1 : (L ++ [b]).length = n + 1 := by simp [hl]
    rw [hn1] at h1' ⊢
    exact h A c w' (Lib.hid h1') h2 ((Below.refl base w).grown h2 hbase (fun k e => (World.ownsRow.lt hown k e).1))
theorem radd4 (a b c d y : Nat) (g : Nat) (w : World) (hg : g < w.heap.size) (hB : Blk w g 3 #[.int .i64 a, .int .i64 b, .int .i64 c, .int .i64 d]) (hw : words [a, b, c, d]) (h : sumW [a, b, c, d] = y) :
    Calls Tryd.prog 89 #[.slice (some ⟨g, 0, none⟩) 4 4] w fun e w' => e = .returned (.int .i64 y) ∧ w = w' := by
  subst h; exact radd_any [a, b, c, d] _ 4 4 w (slr_new w [a, b, c, d] hB hg) (by omega) hw (by omega)
set_option maxHeartbeats 1000000 in
set_option maxRecDepth 100000 in
theorem rspread_any (s : ByteArray) (w : World) (hs : s.size = 64) :
    Calls Tryd.prog 84 #[.string s] w fun e w' => ∃ A c, e = .returned (.slice A 64 c) ∧ IRow w' w.heap.size (.slice A 64 c) (growTo (cutW s true) 48) ∧ Below w.heap.size w w' := by
  have HS := Lib.hid hs
  have hl := cutW_len s true
  have hw := cutW_words s true
  obtain ⟨l, hle⟩ : ∃ l, cutW s true = l := ⟨_, rfl⟩
  rw [hs] at hl
  rw [hle] at hl hw ⊢
  have HL := Lib.hid (And.intro hle (And.intro (show l.length = 16 from hl) hw))
  clear hs hl hw hle
  go_enter Tryd.func84, Tryd.ntmps84
  go_wp2_with fail
  refine (rcut_any s _ (by rw [HS.out]) (by rw [HS.out]; omega)).mono ?_
  rintro e w1 ⟨A, c, rfl, hR, hB1⟩
  rw [HL.out.1] at hR
  rw [show s.size / 4 = 16 by rw [HS.out]] at hR ⊢
  have hR0 : Hid (IRow w1 w.heap.size (.slice A 16 c) (growTo l 0)) := Lib.hid hR
  clear hR
  go_wp2_with fail
  go_loopw [3, 5] (fun v iv wr => ∃ (k i : Nat) (A : Option Addr) (c : Nat), iv = .int .i64 i ∧ v = .slice A i c ∧ Hid (i = 16 + k) ∧ i ≤ 64 ∧ Hid (IRow wr w.heap.size (.slice A i c) (growTo l k)) ∧ Below w.heap.size w wr) (fun _ iv _ => 64 - (intOf iv).toNat)
  case atStart => exact ⟨0, 16, A, c, rfl, rfl, rfl, by omega, hR0, hB1⟩
  case round =>
    clear hR0
    obtain ⟨k, i, A, c, rfl, rfl, HI, hi, HR, hB⟩ := hrel
    by_cases hlt : i < 64
    · have hlen : (growTo l k).length = i := by rw [growTo_len, HL.out.2.1, HI.out]
      have hwo := growTo_words HL.out.2.2 k
      obtain ⟨A0, c0, hv, h1, h2, h3⟩ := own_form HR.out
      obtain ⟨g, hg, hg1, hg2⟩ : ∃ g, A = some ⟨g, 0, none⟩ ∧ w.heap.size ≤ g ∧ g < wr.heap.size := by
        rcases h3 with h0 | ⟨g, e, h4, h5⟩
        · have := HI.out; omega
        · refine ⟨g, ?_, h4, h5⟩
          injection hv with hA
          rw [hA, e]
      subst hg
      clear hv h1 h2 h3
      obtain ⟨p, hp⟩ : ∃ p, (growTo l k)[k + 1]? = some p := ⟨_, List.getElem?_eq_getElem (by have := HI.out; omega)⟩
      obtain ⟨q, hq⟩ : ∃ q, (growTo l k)[k + 14]? = some q := ⟨_, List.getElem?_eq_getElem (by have := HI.out; omega)⟩
      obtain ⟨u, hu⟩ : ∃ u, (growTo l k)[k]? = some u := ⟨_, List.getElem?_eq_getElem (by have := HI.out; omega)⟩
      obtain ⟨v, hv⟩ : ∃ v, (growTo l k)[k + 9]? = some v := ⟨_, List.getElem?_eq_getElem (by have := HI.out; omega)⟩
      have hp32 := hwo p (List.mem_of_getElem? hp)
      have hq32 := hwo q (List.mem_of_getElem? hq)
      have hu32 := hwo u (List.mem_of_getElem? hu)
      have hv32 := hwo v (List.mem_of_getElem? hv)
      have cp := irow_cell HR.out hlen hp
      have cq := irow_cell HR.out hlen hq
      have cu := irow_cell HR.out hlen hu
      have cv := irow_cell HR.out hlen hv
      obtain ⟨pa, hpa, pa2⟩ := rotl_get p 25 hp32
      obtain ⟨pb, hpb, pb2⟩ := rotl_get p 14 hp32
      obtain ⟨pc, hpc, pc2⟩ := div_get p (2 ^ 3) hp32
      obtain ⟨qa, hqa, qa2⟩ := rotl_get q 15 hq32
      obtain ⟨qb, hqb, qb2⟩ := rotl_get q 13 hq32
      obtain ⟨qc, hqc, qc2⟩ := div_get q (2 ^ 10) hq32
      obtain ⟨X, hX, X2⟩ := xor_get [pa, pb, pc] (words3 pa2 pb2 pc2)
      obtain ⟨Y, hY, Y2⟩ := xor_get [qa, qb, qc] (words3 qa2 qb2 qc2)
      obtain ⟨V, hV, V2⟩ := sum_get [u, X, v, Y]
      have HNew : Hid (growTo l k ++ [V] = growTo l (k + 1)) := Lib.hid (by rw [growTo, List.getD_eq_getElem?_getD, List.getD_eq_getElem?_getD, List.getD_eq_getElem?_getD, List.getD_eq_getElem?_getD, hp, hq, hu, hv]; simp only [Option.getD_some, s0W, s1W]; rw [hpa, hpb, hpc, hqa, hqb, hqc, hX, hY, hV])
      have HP := Lib.hid (And.intro hpa (And.intro hpb (And.intro hpc hX)))
      have HQ := Lib.hid (And.intro hqa (And.intro hqb (And.intro hqc hY)))
      have HVw := Lib.hid (And.intro hV (words4 hu32 X2 hv32 Y2))
      have HU := Lib.hid (And.intro hu hv)
      have HLn := Lib.hid hlen
      obtain ⟨a, ha⟩ : ∃ a, k + 1 = a := ⟨_, rfl⟩
      obtain ⟨b, hb⟩ : ∃ b, k + 14 = b := ⟨_, rfl⟩
      obtain ⟨d, hd⟩ : ∃ d, k + 9 = d := ⟨_, rfl⟩
      rw [ha] at cp
      rw [hb] at cq
      rw [hd] at cv HU
      have hik := HI.out
      have ea : (i : Int) - 15 = a := by omega
      have eb : (i : Int) - 2 = b := by omega
      have ec : (i : Int) - 16 = k := by omega
      have ed : (i : Int) - 7 = d := by omega
      have wc : IntKind.i64.wrap (k : Int) = k := wrap_i64_nat _ (by omega)
      have wd : IntKind.i64.wrap (d : Int) = d := wrap_i64_nat _ (by omega)
      have c0 : (0 : Int) ≤ k := by omega
      have d0 : (0 : Int) ≤ d := by omega
      have a0 : (0 : Int) ≤ a := by omega
      have b0 : (0 : Int) ≤ b := by omega
      have a1 : (a : Int) < i := by omega
      have b1 : (b : Int) < i := by omega
      have c1 : (k : Int) < i := by omega
      have d1 : (d : Int) < i := by omega
      clear ha hb hd hik hp hq hu hv hwo hlen hpa hpb hpc hqa hqb hqc hX hY hV
      go_wp2_with fail
      refine (rback_any p 7 _ hp32 (by omega)).mono ?_
      rintro e w3 ⟨rfl, rfl⟩
      rw [show rotl p (32 - 7) = pa from HP.out.1]
      go_wp2_with fail
      refine (rback_any p 18 _ hp32 (by omega)).mono ?_
      rintro e w3 ⟨rfl, rfl⟩
      rw [show rotl p (32 - 18) = pb from HP.out.2.1]
      go_wp2_with fail
      refine (rfall_any p 3 _ hp32 (by omega)).mono ?_
      rintro e w3 ⟨rfl, rfl⟩
      rw [show p / 2 ^ 3 = pc from HP.out.2.2.1]
      go_wp2_with fail
      refine (three_any pa pb pc _ pa2 pb2 pc2).mono ?_
      rintro e w3 ⟨rfl, rfl⟩
      rw [HP.out.2.2.2]
      go_wp2_with fail
      refine (rback_any q 17 _ hq32 (by omega)).mono ?_
      rintro e w3 ⟨rfl, rfl⟩
      rw [show rotl q (32 - 17) = qa from HQ.out.1]
      go_wp2_with fail
      refine (rback_any q 19 _ hq32 (by omega)).mono ?_
      rintro e w3 ⟨rfl, rfl⟩
      rw [show rotl q (32 - 19) = qb from HQ.out.2.1]
      go_wp2_with fail
      refine (rfall_any q 10 _ hq32 (by omega)).mono ?_
      rintro e w3 ⟨rfl, rfl⟩
      rw [show q / 2 ^ 10 = qc from HQ.out.2.2.1]
      go_wp2_with fail
      refine (three_any qa qb qc _ qa2 qb2 qc2).mono ?_
      rintro e w3 ⟨rfl, rfl⟩
      rw [HQ.out.2.2.2]
      clear cp cq ea eb a0 b0 a1 b1
      go_wp2_with fail
      go_region_law (first
        | (refine step_append_int rfl (.tmp 43) (.tmp 58) rfl rfl (irow_below (w' := _) HR.out (by go_grown) (Nat.le_refl _)) (wr.heap.size + 1) V rfl (Blk.new_at (by simp) _ _) i HLn.out _ HNew.out (by omega) (by simp; omega) ?_; intro A1 c1 w1 HR1 hg1 hb1)
        | (go_simp; go_at_call 89; (with_reducible refine Calls.mono (radd4 u X v Y V _ _ ?_ ?_ HVw.out.2 HVw.out.1) ?_); (focus (simp; done)); (focus ((repeat' (first | (with_reducible refine blk_drew ?_) | (with_reducible refine Blk.new_at ?_ _ _) | (simp; done))); done)); rintro r w3 ⟨rfl, rfl⟩))
      all_goals
        clear hg1
        go_wp2_with fail
        go_roundw
        case rel => exact ⟨k + 1, i + 1, A1, c1, by go_num, rfl, Lib.hid (by rw [HI.out]; omega), by omega, HR1, Below.trans (by go_grown) hb1⟩
        case measure => simp [intOf]; omega
    · obtain rfl : i = 64 := by omega
      have hk : k = 48 := by have := HI.out; omega
      have HR2 := HR.out
      rw [hk] at HR2
      have HF := Lib.hid HR2
      clear HR2 hk
      go_wp2_with fail
      go_ret
      exact ⟨A, c, rfl, HF.out, hB⟩
end Go.Proofs.YtkaaicmadknjcaaDoor
