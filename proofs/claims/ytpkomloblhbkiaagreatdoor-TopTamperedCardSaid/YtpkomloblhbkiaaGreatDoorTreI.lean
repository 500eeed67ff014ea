/- slices.Equal of texts; tree: down, for whatever loop body. -/
import Derived.Test.YtpkomloblhbkiaaGreatDoorVolA
import Derived.Test.YtpkomloblhbkiaaGreatDoorTexts
import Derived.RangeFuncNested
import Derived.RangeFuncBound
import Derived.RangeFuncCalls
import Derived.RangeFuncLeaves
import Derived.Shelf.Abstract
import Derived.Shelf.RegionOpen
import Derived.OwnWalkIn
import Derived.TacticsInMore
import Derived.LoopNIn
import Derived.LoopIn
import Derived.Test.YtpkomloblhbkiaaGreatDoorTreF
import Derived.WalkMore
set_option linter.unusedVariables false
set_option linter.unusedSimpArgs false
namespace Go.Proofs.YtpkomloblhbkiaaGreatDoor
open Go.RowKit Go.Shelf
attribute [local go_sem] Oper.semAt_some
set_option maxHeartbeats 400000 in
theorem sequal_any (S T : List ByteArray) (A A' : Option Addr) (n m c c' : Nat) (w : World) (hS : SlR encS 1 w w.heap.size A n S) (hT : SlR encS 1 w w.heap.size A' m T) (hn : n ≤ 140737488351232) (hm : m ≤ 140737488351232) :
    Calls Tryz.prog 30 #[.slice A n c, .slice A' m c'] w fun e w' => e = .returned (.bool (textsB S T)) ∧ Below w.heap.size w w' := by
  obtain ⟨rfl, hSA⟩ := hS
  obtain ⟨rfl, hTA⟩ := hT
  by_cases hne : S.length = T.length
  · have HAll := Lib.hid (textsB_all hne)
    have HNo := Lib.hid (fun k x y h1 h2 h3 => @textsB_at S T k x y h1 h2 h3)
    have HNe := Lib.hid hne
    generalize hv : textsB S T = v at HAll HNo ⊢
    clear hv
    rw [← hne] at hTA ⊢
    by_cases h0 : S.length = 0
    · have hv : v = true := HAll.out fun i x y h _ => by have := (List.getElem?_eq_some_iff.1 h).1; omega
      subst hv
      rw [h0]
      clear HAll HNo hSA hTA hn hm h0 HNe hne
      go_enter Tryz.func30, Tryz.ntmps30
      go_wp2
      go_loop [13] (fun i => i = .int .i64 0) (fun _ => 0)
      case atStart => rfl
      case round =>
        subst hrel
        go_wp2
        go_ret
        exact ⟨rfl, Below.refl _ _⟩
    · obtain ⟨b, off, rfl, hb, hC⟩ := hSA.resolve_left h0
      obtain ⟨b', off', rfl, hb', hC'⟩ := hTA.resolve_left h0
      have HC := Lib.hid hC
      have HC' := Lib.hid hC'
      clear hC hC' hSA hTA h0 hne
      generalize hln : S.length = n at hn HNe ⊢
      have HLn := Lib.hid hln
      clear hln hm
      go_enter Tryz.func30, Tryz.ntmps30
      go_wp2
      go_loopw [13] (fun i wr => ∃ k : Nat, k ≤ n ∧ i = .int .i64 k ∧ Hid (∀ (i : Nat) x y, i < k → S[i]? = some x → T[i]? = some y → x = y) ∧ Below w.heap.size w wr) (fun i _ => n - (intOf i).toNat)
      case atStart => exact ⟨0, Nat.zero_le _, rfl, Lib.hid (fun i s x h => by omega), Below.refl _ _⟩
      case round =>
        obtain ⟨k, hk, rfl, HU, hB⟩ := hrel
        by_cases hlt : k < n
        · obtain ⟨x, hxk⟩ : ∃ x, S[k]? = some x := ⟨S[k]'(by rw [HLn.out]; exact hlt), List.getElem?_eq_getElem _⟩
          obtain ⟨y, hyk⟩ : ∃ y, T[k]? = some y := ⟨T[k]'(by rw [← HNe.out]; exact hlt), List.getElem?_eq_getElem _⟩
          have c0 := (HC.out.below hB hb).str hxk
          have c1 := (HC'.out.below hB hb').str hyk
          have Hxk := Lib.hid hxk
          have Hyk := Lib.hid hyk
          have i0 : (0 : Int) ≤ (k : Int) := by omega
          have i1 : (k : Int) < (n : Int) := by omega
          clear hxk hyk
          by_cases hxy : x = y
          · have t1 : (x.toList == y.toList) = true := by rw [hxy]; simp
            have t2 : (x.toList != y.toList) = false := by rw [hxy]; simp
            have HU1 : Hid (∀ (i : Nat) x y, i < k + 1 → S[i]? = some x → T[i]? = some y → x = y) := Lib.hid (by
              intro i x' y' hi h3 h4
              by_cases e : i = k
              · subst e
                rw [Hxk.out] at h3
                rw [Hyk.out] at h4
                injection h3 with h3
                injection h4 with h4
                subst h3 h4
                exact hxy
              · exact HU.out i x' y' (by omega) h3 h4)
            clear hxy
            go_wp2
            go_quiet (fail)
            go_wp2
            go_roundw
            case rel => exact ⟨k + 1, by omega, by go_num, HU1, below_drewN hB _⟩
            case measure => simp [intOf]; omega
          · have t1 : (x.toList == y.toList) = false := by
              simp only [beq_eq_false_iff_ne, ne_eq]
              exact fun h => hxy (bytes_ext h)
            have t2 : (x.toList != y.toList) = true := by
              simp only [bne_iff_ne, ne_eq]
              exact fun h => hxy (bytes_ext h)
            have hv := HNo.out k x y Hxk.out Hyk.out hxy
            subst hv
            clear hxy
            go_wp2
            go_quiet (fail)
            go_wp2
            go_ret
            exact ⟨rfl, below_drewN hB _⟩
        · obtain rfl : k = n := by omega
          have hv : v = true := HAll.out fun i x y h1 h2 => HU.out i x y (by have := (List.getElem?_eq_some_iff.1 h1).1; rw [HLn.out] at this; exact this) h1 h2
          subst hv
          go_wp2
          go_ret
          exact ⟨rfl, hB⟩
  · rw [textsB_len hne]
    have hne2 : ((S.length : Int) == (T.length : Int)) = false := by simp; omega
    clear hSA hTA
    go_enter Tryz.func30, Tryz.ntmps30
    go_wp2
    go_ret
    exact ⟨rfl, Below.refl _ _⟩
theorem down_in (F : Fence) (n : Nat) (hf : F.fn 33) (hro : F.round = none) (g : Nat) (w : World) :
    CallsIn F n Tryz.prog 33 #[.pointer (some ⟨g, 0, none⟩)] w fun e w' => e = .returned (.func (.func 68) #[] #[.pointer (some ⟨w.heap.size, 0, none⟩)]) ∧ w.alloc (.cells #[.pointer (some ⟨g, 0, none⟩)] 138) = w' := by
  refine callsIn_of_wp Tryz.func33 rfl hf ?_ hro
  simp only [Tryz.ntmps33, List.size_toArray, List.length_cons, List.length_nil, Nat.reduceAdd, Nat.reduceSub, Array.replicate_succ, Array.replicate_zero, List.push_toArray, List.append_toArray, List.nil_append, List.cons_append]
  gi_wp2
  go_ret
  exact ⟨rfl, rfl⟩
def pairV (p : Nat × Nat) : Array Value := #[.int .i64 (p.1 : Int), .int .i64 (p.2 : Int)]
set_option maxHeartbeats 1000000 in
theorem down1_in (F : Fence) (n : Nat) (hf : F.fn 68) (hro : F.round = none) (hn : 1 ≤ n) (l Bn n₀ g H c : Nat) (A : Option Addr) (T : Value) (L : List ByteArray) (J Jx : List (Nat × Nat) → World → Prop)
    (hY : ∀ pre x W, J pre W → pre.length < (downL H).length → x.1 ≤ H → x.2 < 2 ^ (H - x.1) → YieldAt F (n - 1) Tryz.prog l (pairV x) W fun e W' =>
      (e = .returned (.bool true) ∧ J (pre ++ [x]) W' ∧ Below n₀ W W') ∨ (e = .returned (.bool false) ∧ Jx (pre ++ [x]) W'))
    (W : World) (hBn : W.cell? ⟨Bn, 0, none⟩ = some (.pointer (some ⟨g, 0, none⟩))) (hlt : Bn < n₀) (hk : Blk W g 81 #[T, .slice A (H + 1) c]) (hg : g < n₀) (hR : RRows W n₀ A (H + 1) (levs L H)) (hL : L.length = 2 ^ H) (hH : H ≤ 10) (h0 : J [] W) :
    CallsIn F n Tryz.prog 68 #[.func (.yield l) #[] #[], .pointer (some ⟨Bn, 0, none⟩)] W fun e W' => (∃ v, e = .returned v) ∧
      ((∃ ys, ys = downL H ∧ J ys W') ∨ (∃ pre, pre <+: downL H ∧ Jx pre W')) := by
  have HY := Lib.hid hY
  have HRow : Hid (∀ W', Below n₀ W W' → W'.cell? ⟨Bn, 0, none⟩ = some (.pointer (some ⟨g, 0, none⟩)) ∧ W'.cell? ⟨g, 1, none⟩ = some (.slice A (H + 1) c) ∧ ∀ k, k ≤ H → ∃ (b off : Nat) (sA : Option Addr) (sc : Nat), A = some ⟨b, off, none⟩ ∧ W'.cell? ⟨b, off + k, none⟩ = some (.slice sA (2 ^ (H - k)) sc)) := Lib.hid (fun W' hB => by
    refine ⟨(hB.cell (p := ⟨Bn, 0, none⟩) hlt).trans hBn, (hk.below hB hg).cells 1 _ rfl, fun k hkH => ?_⟩
    obtain ⟨b, off, s, e, hb, hc, hq⟩ := (hR.below hB).at_ (levs_at L hkH)
    have hs : s.n = 2 ^ (H - k) := by rw [← hq.1, lev_pow hL hkH]
    rw [hs] at hc
    exact ⟨b, off, s.A, s.c, e, hc⟩)
  obtain ⟨c0, c1, _⟩ := HRow.out W (Below.refl _ _)
  have e1 : ((H + 1 : Nat) : Int) - 1 = (H : Int) := by omega
  have e2 : IntKind.i64.wrap (H : Int) = (H : Int) := wrap_i64_nat H (by omega)
  clear hY hBn hk hR hL
  refine callsIn_of_wp Tryz.func68 rfl hf ?_ hro
  simp only [Tryz.ntmps68, List.size_toArray, List.length_cons, List.length_nil, Nat.reduceAdd, Nat.reduceSub, Array.replicate_succ, Array.replicate_zero, List.push_toArray, List.append_toArray, List.nil_append, List.cons_append]
  gi_wp2
  clear c0 c1
  gi_loopw [3] (fun v wr => ∃ k : Nat, k ≤ H + 1 ∧ v = .int .i64 ((H : Int) - (k : Int)) ∧ Hid (J (dn H k) wr) ∧ Below n₀ W wr) (fun v _ => (intOf v + 1).toNat)
  case atStart => exact ⟨0, Nat.zero_le _, by simp, Lib.hid h0, Below.refl _ _⟩
  case round =>
    obtain ⟨k, hk, rfl, HJ, hB⟩ := hrel
    by_cases hkH : k ≤ H
    · obtain ⟨r, hr⟩ : ∃ r, r = H - k := ⟨_, rfl⟩
      have e0 : (H : Int) - (k : Int) = (r : Int) := by omega
      rw [e0]
      obtain ⟨c0, c1, hrow⟩ := HRow.out wr hB
      obtain ⟨b, off, sA, sc, rfl, c2⟩ := hrow r (by omega)
      rw [show H - r = k by omega] at c2
      have HLt : Hid (∀ j, j < 2 ^ k → (dnAt H k j).length < (downL H).length) := Lib.hid (fun j hj => dnAt_lt H hkH hj)
      have HPre : Hid (∀ j, j ≤ 2 ^ k → dnAt H k j <+: downL H) := Lib.hid (fun j hj => dnAt_prefix H hkH hj)
      have HFull : Hid (dnAt H k (2 ^ k) = dn H (k + 1)) := Lib.hid (dnAt_full H k)
      have HStep : Hid (∀ j, dnAt H k j ++ [(r, j)] = dnAt H k (j + 1)) := Lib.hid (fun j => by rw [hr]; exact dnAt_succ H k j)
      have HJ0 : Hid (J (dnAt H k 0) wr) := Lib.hid (by rw [dnAt_zero]; exact HJ.out)
      have hq : 2 ^ k ≤ 1024 := Nat.le_trans (pow_le_two (by omega : k ≤ 10)) (by decide)
      have i0 : (0 : Int) ≤ (r : Int) := by omega
      have i1 : (r : Int) < ((H + 1 : Nat) : Int) := by omega
      have i2 : (r : Int) < (H : Int) + 1 := by omega
      have e3 : (H : Int) - ((k + 1 : Nat) : Int) = (r : Int) - 1 := by omega
      have HE3 := Lib.hid e3
      have hr10 : r ≤ 10 := by omega
      have HBd : Hid (∀ j, j < 2 ^ k → j < 2 ^ (H - r)) := Lib.hid (fun j h => by rw [show H - r = k by omega]; exact h)
      have hrH : r ≤ H := by omega
      clear hrow HJ e0 e3
      generalize 2 ^ k = q at *
      clear hr
      gi_wp2
      clear c0 c1 c2
      gi_loopw [23] (fun v wx => ∃ j : Nat, j ≤ q ∧ v = .int .i64 j ∧ Hid (J (dnAt H k j) wx) ∧ Below n₀ W wx) (fun v _ => q - (intOf v).toNat)
      case atStart => exact ⟨0, Nat.zero_le _, rfl, HJ0, hB⟩
      case round =>
        clear hB HJ0
        obtain ⟨j, hj, rfl, HJ, hB⟩ := hrel
        by_cases hlt2 : j < q
        · obtain ⟨fn, tmps, assign, body, hy, hR⟩ := HY.out _ (r, j) wr HJ.out (HLt.out j hlt2) hrH (HBd.out j hlt2)
          have HRR := Lib.hid hR
          simp only [pairV] at hy
          clear hR
          gi_wp2
          refine HRR.out.mono ?_
          rintro e W3 (⟨rfl, hJ3, hk3⟩ | ⟨rfl, hJx3⟩)
          · rw [HStep.out] at hJ3
            have HJ3 := Lib.hid hJ3
            clear hJ3
            gi_wp2
            go_roundw
            case rel => exact ⟨j + 1, by omega, by go_num, HJ3, hB.trans hk3⟩
            case measure => simp [intOf]; omega
          · rw [HStep.out] at hJx3
            have HJ3 := Lib.hid hJx3
            clear hJx3
            gi_wp2
            refine bodyPost_ret (results_none rfl _ _ _) rfl ?_
            exact ⟨⟨_, rfl⟩, .inr ⟨_, HPre.out (j + 1) (by omega), HJ3.out⟩⟩
        · obtain rfl : j = q := by omega
          have HJ4 : Hid (J (dn H (k + 1)) wr) := Lib.hid (by rw [← HFull.out]; exact HJ.out)
          gi_wp2
          go_roundw
          case rel => exact ⟨k + 1, by omega, by rw [HE3.out], HJ4, hB⟩
          case measure => simp [intOf]
    · obtain rfl : k = H + 1 := by omega
      have e0 : (H : Int) - ((H + 1 : Nat) : Int) = -1 := by omega
      rw [e0]
      gi_wp2
      go_end0
      exact ⟨⟨_, rfl⟩, .inl ⟨_, rfl, HJ.out⟩⟩
end Go.Proofs.YtpkomloblhbkiaaGreatDoor
/- tree: Collide. -/
namespace Go.Proofs.YtpkomloblhbkiaaGreatDoor
open Go.RowKit Go.Shelf
attribute [local go_sem] Oper.semAt_some
theorem coll_out (l m : List ByteArray) (A A' : Option Addr) (n c k c' : Nat) (w : World) (hL : SlR encS 1 w w.heap.size A n l) (hM : SlR encS 1 w w.heap.size A' k m) (hn : n ≤ 140737488351232) (hk : k ≤ 140737488351232)
    (h : (decide (n = k) && (mayB n && decide (l ≠ m))) = false) :
    Calls Tryz.prog 13 #[.slice A n c, .slice A' k c'] w (TwoPost noTwo w) := by
  by_cases hnk : n = k
  · subst hnk
    have HM := Lib.hid (mayroot_any n w hn)
    have t0 : ((n : Int) == (n : Int)) = true := by simp
    have t0b : ((n : Int) != (n : Int)) = false := by simp
    have HE := Lib.hid (sequal_any l m A A' n n c c' w hL hM hn hk)
    cases hmay : mayB n
    · rw [hmay] at HM
      clear h hmay hL hM
      go_enter Tryz.func13, Tryz.ntmps13
      go_wp2_with fail
      go_step3
      go_wp2_with fail
      refine HM.out.mono ?_
      rintro e w1 ⟨rfl, rfl⟩
      go_wp2_with fail
      refine bodyPost_ret (results_tmp3 rfl _ _ _) rfl ?_
      exact two_no (Below.refl _ _)
    · have hlm : textsB l m = true := by
        rw [hmay] at h
        simpa [textsB] using h
      rw [hmay] at HM
      rw [hlm] at HE
      clear h hmay hL hM hlm
      go_enter Tryz.func13, Tryz.ntmps13
      go_wp2_with fail
      go_step3
      go_wp2_with fail
      refine HM.out.mono ?_
      rintro e w1 ⟨rfl, rfl⟩
      go_wp2_with fail
      refine HE.out.mono ?_
      rintro e w1 ⟨rfl, hb1⟩
      go_wp2_with fail
      refine bodyPost_ret (results_tmp3 rfl _ _ _) rfl ?_
      exact two_no hb1
  · have t0 : ((n : Int) == (k : Int)) = false := by simp; omega
    have t1 : ((n : Int) != (k : Int)) = true := by simp; omega
    clear h hL hM
    go_enter Tryz.func13, Tryz.ntmps13
    go_wp2_with fail
    go_step3
    go_wp2_with fail
    refine bodyPost_ret (results_tmp3 rfl _ _ _) rfl ?_
    exact two_no (Below.refl _ _)
/-- a digest's place in rows of height H -/
structure Pl (H : Nat) where
  (v : Nat × Nat) (h1 : v.1 ≤ H) (h2 : v.2 < 2 ^ (H - v.1))
theorem down_seq (F : Fence) (n : Nat) (hf : F.fn 68) (hro : F.round = none) (hn : 1 ≤ n) (l Bn n₀ g H c : Nat) (A : Option Addr) (T : Value) (L : List ByteArray) (J Jx : List (Pl H) → World → Prop)
    (hY : ∀ pre x W, J pre W → pre.length < (downL H).length → YieldAt F (n - 1) Tryz.prog l (pairV x.v) W fun e W' =>
      (e = .returned (.bool true) ∧ J (pre ++ [x]) W' ∧ Below n₀ W W') ∨ (e = .returned (.bool false) ∧ Jx (pre ++ [x]) W'))
    (W : World) (hBn : W.cell? ⟨Bn, 0, none⟩ = some (.pointer (some ⟨g, 0, none⟩))) (hlt : Bn < n₀) (hk : Blk W g 81 #[T, .slice A (H + 1) c]) (hg : g < n₀) (hR : RRows W n₀ A (H + 1) (levs L H)) (hL : L.length = 2 ^ H) (hH : H ≤ 10) (h0 : J [] W) :
    CallsIn F n Tryz.prog 68 #[.func (.yield l) #[] #[], .pointer (some ⟨Bn, 0, none⟩)] W fun e W' => (∃ v, e = .returned v) ∧
      ((∃ ys : List (Pl H), ys.map Pl.v = downL H ∧ J ys W') ∨ (∃ pre : List (Pl H), pre.map Pl.v <+: downL H ∧ Jx pre W')) := by
  refine (down1_in F n hf hro hn l Bn n₀ g H c A T L (fun ys W => ∃ xs : List (Pl H), xs.map Pl.v = ys ∧ J xs W) (fun ys W => ∃ xs : List (Pl H), xs.map Pl.v = ys ∧ Jx xs W) ?_ W hBn hlt hk hg hR hL hH ⟨[], rfl, h0⟩).mono ?_
  · rintro pre x W1 ⟨xs, rfl, hJ⟩ hlen h1 h2
    obtain ⟨fn, tmps, assign, body, hy, hR⟩ := hY xs ⟨x, h1, h2⟩ W1 hJ (by simpa using hlen)
    refine ⟨fn, tmps, assign, body, hy, hR.mono ?_⟩
    rintro e W' (⟨a, b, d⟩ | ⟨a, b⟩)
    · exact .inl ⟨a, ⟨_, by simp, b⟩, d⟩
    · exact .inr ⟨a, ⟨_, by simp, b⟩⟩
  · rintro e W' ⟨hv, ⟨ys, h1, xs, h2, hJ⟩ | ⟨pre, h1, xs, h2, hJ⟩⟩
    · exact ⟨hv, .inl ⟨xs, h2.trans h1, hJ⟩⟩
    · exact ⟨hv, .inr ⟨xs, by rw [h2]; exact h1, hJ⟩⟩
theorem find_none {H : Nat} {l m : List ByteArray} {xs : List (Pl H)} (h : xs.map Pl.v = downL H) (hno : ∀ x ∈ xs, unlike l m x.v = false) : findTwo l m (downL H) = noTwo := by
  unfold findTwo
  have : (downL H).find? (unlike l m) = none := by
    rw [← h, List.find?_eq_none]
    intro p hp
    obtain ⟨x, hx, rfl⟩ := List.mem_map.1 hp
    simp [hno x hx]
  rw [this]
theorem find_some {H : Nat} {l m : List ByteArray} {pre : List (Pl H)} {x : Pl H} (h : (pre ++ [x]).map Pl.v <+: downL H) (hno : ∀ y ∈ pre, unlike l m y.v = false) (hx : unlike l m x.v = true) : findTwo l m (downL H) = ⟨toldT l x.v.1 x.v.2, toldT m x.v.1 x.v.2, true⟩ := by
  obtain ⟨rest, hrest⟩ := h
  unfold findTwo
  have : (downL H).find? (unlike l m) = some x.v := by
    rw [← hrest, List.map_append, List.append_assoc, List.find?_append]
    have h1 : (pre.map Pl.v).find? (unlike l m) = none := by
      rw [List.find?_eq_none]
      intro p hp
      obtain ⟨y, hy, rfl⟩ := List.mem_map.1 hp
      simp [hno y hy]
    rw [h1]
    simp [hx]
  rw [this]
set_option maxRecDepth 100000 in
set_option maxHeartbeats 2000000 in
theorem coll_in (l m : List ByteArray) (A A' : Option Addr) (n c c' H : Nat) (w : World) (hG : Rounds w) (hL : SlR encS 1 w w.heap.size A n l) (hM : SlR encS 1 w w.heap.size A' n m)
    (hmay : mayB n = true) (hn : n = 2 ^ H) (hH : H ≤ 10) (hne : textsB l m = false) (hls : ∀ x ∈ l, x.size ≤ 140737488351232) (hms : ∀ x ∈ m, x.size ≤ 140737488351232)
    (hrt : atB (lev l H) 0 = atB (lev m H) 0) :
    Calls Tryz.prog 13 #[.slice A n c, .slice A' n c'] w (TwoPost (findTwo l m (downL H)) w) := by
  have hn2 : n ≤ 1024 := by rw [hn]; exact Nat.le_trans (pow_le_two hH) (by decide)
  have hMy := mayroot_any n w (by omega)
  rw [hmay] at hMy
  have HMy := Lib.hid hMy
  have hE := sequal_any l m A A' n n c c' w hL hM (by omega) (by omega)
  rw [hne] at hE
  have HE := Lib.hid hE
  have HLl : Hid (l.length = 2 ^ H) := Lib.hid (by rw [hL.1, hn])
  have HLm : Hid (m.length = 2 ^ H) := Lib.hid (by rw [hM.1, hn])
  have HL := Lib.hid hL
  have HM := Lib.hid hM
  have HG := Lib.hid hG
  have HRl := Lib.hid (fun W (h1 : Rounds W) (h2 : SlR encS 1 W W.heap.size A n l) => rowsOf_any l A n c H W h1 h2 hn hH hls)
  have HRm := Lib.hid (fun W (h1 : Rounds W) (h2 : SlR encS 1 W W.heap.size A' n m) => rowsOf_any m A' n c' H W h1 h2 hn hH hms)
  have Hls := Lib.hid hls
  have Hms := Lib.hid hms
  have Hrt := Lib.hid hrt
  have t0 : ((n : Int) == (n : Int)) = true := by simp
  have t0b : ((n : Int) != (n : Int)) = false := by simp
  clear hMy hE hL hM hG hmay hn hne hls hms hrt
  refine (callsIn_wide (n := 10)).1 ?_
  refine callsIn_of_wp_marks Tryz.func13 rfl trivial ?_ rfl
  simp only [Tryz.ntmps13, List.size_toArray, List.length_cons, List.length_nil, Nat.reduceAdd, Nat.reduceSub, Array.replicate_succ, Array.replicate_zero, List.push_toArray, List.append_toArray, List.nil_append, List.cons_append]
  gi_wp2_with fail
  refine wpIn_wide.2 (wp_scope_straight ((wpIn_wide (n := 10)).1 ?_))
  gi_wp2_with fail
  refine ⟨trivial, ?_⟩
  gi_at_call 29
  refine (callsIn_wide.2 HMy.out).mono ?_
  rintro e w1 ⟨rfl, rfl⟩
  gi_wp2_with fail
  refine ⟨trivial, ?_⟩
  gi_at_call 30
  refine (callsIn_wide.2 HE.out).mono ?_
  rintro e w1 ⟨rfl, hB1⟩
  have HL1 := Lib.hid ((HL.out.below hB1).more hB1.size)
  have HM1 := Lib.hid ((HM.out.below hB1).more hB1.size)
  clear HMy HE HL HM
  gi_wp2_with fail
  refine ⟨trivial, ?_⟩
  gi_at_call 31
  refine (callsIn_wide.2 (HRl.out _ (rounds_of HG.out hB1) HL1.out)).mono ?_
  rintro e w2 ⟨hb2, A2, c2, rfl, h21, h22, HR2⟩
  have hB2 := hB1.trans (hb2.mono hB1.size)
  have HL2 := Lib.hid ((HL1.out.below hb2).more hb2.size)
  have HM2 := Lib.hid ((HM1.out.below hb2).more hb2.size)
  clear HL1 HM1 hB1 hb2 HRl
  gi_wp2_with fail
  refine ⟨trivial, ?_⟩
  gi_at_call 31
  refine (callsIn_wide.2 (HRm.out _ (rounds_of HG.out hB2) HM2.out)).mono ?_
  rintro e w3 ⟨hb3, A3, c3, rfl, h31, h32, HR3⟩
  have hB3 := hB2.trans (hb3.mono hB2.size)
  have HL3 := Lib.hid ((HL2.out.below hb3).more hb3.size)
  have HM3 := Lib.hid ((HM2.out.below hb3).more hb3.size)
  have HR2' := Lib.hid ((HR2.out.below hb3).more hb3.size)
  clear HL2 HM2 hB2 hb3 HRm HR2
  have HTa : Hid (Tree ((w3.alloc (.cells #[.slice A n c, .slice A2 (H + 1) c2] 81)).alloc (.cells #[.slice A' n c', .slice A3 (H + 1) c3] 81)) w3.heap.size (.slice A n c) l H) := Lib.hid ((tree_new HR2'.out h21 h22).below (by go_grown))
  have HTb : Hid (Tree ((w3.alloc (.cells #[.slice A n c, .slice A2 (H + 1) c2] 81)).alloc (.cells #[.slice A' n c', .slice A3 (H + 1) c3] 81)) (w3.heap.size + 1) (.slice A' n c') m H) := Lib.hid (by
    have := tree_new (w := w3.alloc (.cells #[.slice A n c, .slice A2 (H + 1) c2] 81)) (T := .slice A' n c') (l := m) (h := H) ((HR3.out.below (by go_grown)).more (by simp)) h31 h32
    simpa using this)
  have hz3 := hB3.size
  have hB4 : Below w.heap.size w ((w3.alloc (.cells #[.slice A n c, .slice A2 (H + 1) c2] 81)).alloc (.cells #[.slice A' n c', .slice A3 (H + 1) c3] 81)) := Below.trans hB3 (by go_grown)
  have HL4 : Hid (SlR encS 1 ((w3.alloc (.cells #[.slice A n c, .slice A2 (H + 1) c2] 81)).alloc (.cells #[.slice A' n c', .slice A3 (H + 1) c3] 81)) w3.heap.size A n l) := Lib.hid (HL3.out.below (by go_grown))
  have HM4 : Hid (SlR encS 1 ((w3.alloc (.cells #[.slice A n c, .slice A2 (H + 1) c2] 81)).alloc (.cells #[.slice A' n c', .slice A3 (H + 1) c3] 81)) w3.heap.size A' n m) := Lib.hid (HM3.out.below (by go_grown))
  gi_wp2_with fail
  refine ⟨trivial, ?_⟩
  gi_at_call 32
  refine (callsIn_wide.2 (root_any _ w3.heap.size H _ l HTa.out HLl.out hH)).mono ?_
  rintro e w5 ⟨rfl, hb5⟩
  have hB5 := hB4.trans (hb5.mono hB4.size)
  have HTa5 := Lib.hid (HTa.out.below hb5)
  have HTb5 := Lib.hid (HTb.out.below hb5)
  have HL5 := Lib.hid (HL4.out.below (hb5.mono (by simp; omega)))
  have HM5 := Lib.hid (HM4.out.below (hb5.mono (by simp; omega)))
  have hz5 := hb5.size
  simp only [World.size_alloc] at hz5
  clear HTa HTb HL4 HM4 HR2' HR3 HL3 HM3 hB4 hb5
  gi_wp2_with fail
  refine ⟨trivial, ?_⟩
  gi_at_call 32
  refine (callsIn_wide.2 (root_any _ (w3.heap.size + 1) H _ m HTb5.out HLm.out hH)).mono ?_
  rintro e w6 ⟨rfl, hb6⟩
  rw [Hrt.out]
  have hB6 := hB5.trans (hb6.mono hB5.size)
  have HTa6 := Lib.hid (HTa5.out.below hb6)
  have HTb6 := Lib.hid (HTb5.out.below hb6)
  have HL6 := Lib.hid (HL5.out.below (hb6.mono (by omega)))
  have HM6 := Lib.hid (HM5.out.below (hb6.mono (by omega)))
  have hz6 := Nat.le_trans hz5 hb6.size
  clear HTa5 HTb5 HL5 HM5 hB5 hb6 hz5
  generalize atB (lev m H) 0 = rt at *
  generalize w3.heap.size = g at *
  gi_wp2_with fail
  refine wpIn_label ?_
  gi_wp2_with fail
  refine ⟨trivial, ?_⟩
  gi_at_call 33
  refine (down_in Fence.wide _ trivial rfl g _).mono ?_
  rintro e w7 ⟨rfl, rfl⟩
  gi_wp2_with fail
  have hBs : Below w.heap.size w ((((w6.alloc (.cells #[.string ByteArray.empty] 9)).alloc (.cells #[.string ByteArray.empty] 9)).alloc (.cells #[.bool false] 4)).alloc (.cells #[.pointer (some ⟨g, 0, none⟩)] 138)) := Below.trans hB6 (by have := hB6.size; go_grown)
  have hB67 : Below w6.heap.size w6 ((((w6.alloc (.cells #[.string ByteArray.empty] 9)).alloc (.cells #[.string ByteArray.empty] 9)).alloc (.cells #[.bool false] 4)).alloc (.cells #[.pointer (some ⟨g, 0, none⟩)] 138)) := by go_grown
  have hk9 := ((((Blk.new w6 9 #[.string ByteArray.empty]).alloc (.cells #[.string ByteArray.empty] 9)).alloc (.cells #[.bool false] 4)).alloc (.cells #[.pointer (some ⟨g, 0, none⟩)] 138))
  have hk10 := (((Blk.new_at (w := w6.alloc (.cells #[.string ByteArray.empty] 9)) (g := w6.heap.size + 1) (by simp) 9 #[.string ByteArray.empty]).alloc (.cells #[.bool false] 4)).alloc (.cells #[.pointer (some ⟨g, 0, none⟩)] 138))
  have hk11 := ((Blk.new_at (w := (w6.alloc (.cells #[.string ByteArray.empty] 9)).alloc (.cells #[.string ByteArray.empty] 9)) (g := w6.heap.size + 1 + 1) (by simp) 4 #[.bool false]).alloc (.cells #[.pointer (some ⟨g, 0, none⟩)] 138))
  have hk12 := (Blk.new_at (w := ((w6.alloc (.cells #[.string ByteArray.empty] 9)).alloc (.cells #[.string ByteArray.empty] 9)).alloc (.cells #[.bool false] 4)) (g := w6.heap.size + 1 + 1 + 1) (by simp) 138 #[.pointer (some ⟨g, 0, none⟩)])
  have hTa7 := HTa6.out.below hB67
  have hTb7 := HTb6.out.below hB67
  have hL7 := HL6.out.below (hB67.mono (by omega))
  have hM7 := HM6.out.below (hB67.mono (by omega))
  have hsz : ((((w6.alloc (.cells #[.string ByteArray.empty] 9)).alloc (.cells #[.string ByteArray.empty] 9)).alloc (.cells #[.bool false] 4)).alloc (.cells #[.pointer (some ⟨g, 0, none⟩)] 138)).heap.size = w6.heap.size + 1 + 1 + 1 + 1 := by simp
  change Code.wpIn _ _ _ _ _ _ ((((w6.alloc (.cells #[.string ByteArray.empty] 9)).alloc (.cells #[.string ByteArray.empty] 9)).alloc (.cells #[.bool false] 4)).alloc (.cells #[.pointer (some ⟨g, 0, none⟩)] 138))
  generalize ((((w6.alloc (.cells #[.string ByteArray.empty] 9)).alloc (.cells #[.string ByteArray.empty] 9)).alloc (.cells #[.bool false] 4)).alloc (.cells #[.pointer (some ⟨g, 0, none⟩)] 138)) = W0 at *
  have hz9 := hB6.size
  generalize w6.heap.size = o at *
  have HBs := Lib.hid hBs
  have HTa7 := Lib.hid hTa7
  have HTb7 := Lib.hid hTb7
  have HL7 := Lib.hid hL7
  have HM7 := Lib.hid hM7
  have HK9 := Lib.hid hk9
  have HK10 := Lib.hid hk10
  have HK11 := Lib.hid hk11
  have HK12 := Lib.hid hk12
  clear hBs hTa7 hTb7 hL7 hM7 hk9 hk10 hk11 hk12 hB67 HTa6 HTb6 HL6 HM6 hB6
  obtain ⟨Aa, ca, hka, hra, _, _⟩ := HTa7.out
  refine wpIn_rangeFunc_ownH rfl (by omega) (gf := 68) (lb := #[.pointer (some ⟨o + 1 + 1 + 1, 0, none⟩)]) rfl trivial (enters_of Tryz.func68 (by kernel_rfl) rfl)
    (encs := fun x => pairV x.v) (Kp := Below (o + 1 + 1 + 1 + 1)) (S := fun (xs : List (Pl H)) => xs.map Pl.v = downL H) (Sp := fun pre => pre.map Pl.v <+: downL H) (N := (downL H).length) (w0 := W0)
    (fun l' J Jx W hW hJ hJx hY h0 => down_seq Fence.wide _ trivial rfl (by omega) l' (o + 1 + 1 + 1) (o + 1 + 1 + 1 + 1) g H ca Aa (.slice A n c) l J Jx hY W ((hW.cell (p := ⟨o + 1 + 1 + 1, 0, none⟩) (by simp; omega)).trans (HK12.out.cells 0 _ rfl)) (by omega) (hka.below hW (by omega)) (by omega) (by rw [← hsz]; exact hra.below hW) HLl.out hH h0)
    belowK_t (belowK_b (by omega)) (Below.refl _ _) (fun _ => rfl)
    (fun pre W => Below (o + 1 + 1 + 1 + 1) W0 W ∧ (∀ x ∈ pre, unlike l m x.v = false))
    (fun cd pre W => cd = .exit 0 ∧ ∃ (pre0 : List (Pl H)) (x : Pl H), pre = pre0 ++ [x] ∧ (∀ y ∈ pre0, unlike l m y.v = false) ∧ unlike l m x.v = true ∧ Below w.heap.size w W ∧ o + 1 + 1 + 1 + 1 ≤ W.heap.size ∧
      Blk W o 9 #[.string (toldT l x.v.1 x.v.2)] ∧ Blk W (o + 1) 9 #[.string (toldT m x.v.1 x.v.2)] ∧ Blk W (o + 1 + 1) 4 #[.bool true])
    (fun s W W' row hs hg hr => ⟨hs.1.grown hg (by have := hs.1.size; omega) (fun k e => by have := (hr k e).1; omega), hs.2⟩)
    (fun cd s W W' row hs hg hr => by
      obtain ⟨h1, pre0, x, h2, h3, h4, h5, h6, h7, h8, h9⟩ := hs
      have hr' := fun r e => (hr r e).2
      exact ⟨h1, pre0, x, h2, h3, h4, h5.grown hg h5.size (fun k e => by have := (hr k e).1; omega), Nat.le_trans h6 hg.size, blk_own _ _ (fun (_ : Unit) => _) () W W' row h7 hg hr', blk_own _ _ (fun (_ : Unit) => _) () W W' row h8 hg hr', blk_own _ _ (fun (_ : Unit) => _) () W W' row h9 hg hr'⟩)
    ⟨Below.refl _ _, (fun x hx => by cases hx)⟩
    (fun x a' W => a' = { tmps := #[.slice A n c, .slice A' n c', undef, undef, .string ByteArray.empty, .string ByteArray.empty, .bool false, .pointer (some ⟨g, 0, none⟩), .pointer (some ⟨g + 1, 0, none⟩), .pointer (some ⟨o, 0, none⟩), .pointer (some ⟨o + 1, 0, none⟩), .pointer (some ⟨o + 1 + 1, 0, none⟩), .int .i64 (x.v.1 : Int), .int .i64 (x.v.2 : Int), undef, undef,
      .slice A n c, .int .i64 n, .slice A' n c', .int .i64 n, .bool false, .bool false, .slice A n c, .int .i64 n, .bool true, .bool false, .bool false, .bool false, .slice A n c, .slice A' n c', .bool false, .bool false, .slice A n c, .agg #[.slice A n c, .slice A2 (H + 1) c2], .slice A' n c', .agg #[.slice A' n c', .slice A3 (H + 1) c3], .string rt, .string rt, .bool false,
      .func (.func 68) #[] #[.pointer (some ⟨o + 1 + 1 + 1, 0, none⟩)], .int .i64 (x.v.1 : Int), .int .i64 (x.v.2 : Int), undef, undef, undef, undef, undef, undef, undef, undef, undef, undef, undef, undef, undef, undef], defers := [] })
    (fun x a' s W W' row hs hg hr => hs)
    ?assign ?body ?done ?stop
  case assign =>
    rintro l' pre x W K ⟨hW, hno⟩ hK
    simp only [pairV]
    gi_wp2
    exact hK _ _ (KeepsFrom.refl _ _) (Below.refl _ W) ⟨hW, hno⟩ rfl
  case body =>
    rintro l' pre x a' W hl _ ⟨hW, hno⟩ rfl hlt
    have hzW := hW.size
    have HTo := Lib.hid (told_any W g H x.v.1 x.v.2 A n c l ((HL7.out.below (hW.mono (by omega))).more (by omega)) (HTa7.out.below (hW.mono (by omega))) HLl.out hH x.h1 x.h2 Hls.out)
    obtain ⟨T1, hT1⟩ : ∃ T, toldT l x.v.1 x.v.2 = T := ⟨_, rfl⟩
    obtain ⟨T2, hT2⟩ : ∃ T, toldT m x.v.1 x.v.2 = T := ⟨_, rfl⟩
    rw [hT1] at HTo
    have HTn := Lib.hid (And.intro hT1 hT2)
    have HW := Lib.hid hW
    have HNo := Lib.hid hno
    clear hT1 hT2 hno
    gi_wp2_with fail
    refine ⟨trivial, ?_⟩
    gi_at_call 34
    refine (CallsIn.inRound l' (callsIn_wide.2 HTo.out)).mono ?_
    rintro e W1 ⟨rfl, hb1⟩
    have hW1 := hW.trans (hb1.mono (by omega))
    have hzW1 := hW1.size
    have HKe1 := Lib.hid (keepsOthers_below hb1)
    have HBt1 : Hid (Below (o + 1 + 1 + 1 + 1) W W1) := Lib.hid (hb1.mono (by omega))
    have HTp := told_any W1 (g + 1) H x.v.1 x.v.2 A' n c' m ((HM7.out.below (hW1.mono (by omega))).more (by omega)) (HTb7.out.below (hW1.mono (by omega))) HLm.out hH x.h1 x.h2 Hms.out
    rw [HTn.out.2] at HTp
    have HTp := Lib.hid HTp
    clear HTo hW hzW hb1
    gi_wp2_with fail
    refine ⟨trivial, ?_⟩
    gi_at_call 34
    refine (CallsIn.inRound l' (callsIn_wide.2 HTp.out)).mono ?_
    rintro e W2 ⟨rfl, hb2⟩
    have hW2 := hW1.trans (hb2.mono (by omega))
    have hzW2 := hW2.size
    have HKe2 := Lib.hid (HKe1.out.trans (keepsOthers_below hb2))
    have HBt : Hid (Below (o + 1 + 1 + 1 + 1) W W2) := Lib.hid (HBt1.out.trans (hb2.mono (by omega)))
    clear HTp hb2 HKe1 hW1 hzW1 HBt1
    by_cases hT : T1 = T2
    · have e1 : (T1.toList == T2.toList) = true := by rw [hT]; simp
      have HU : Hid (unlike l m x.v = false) := Lib.hid (by unfold unlike; rw [HTn.out.1, HTn.out.2]; simp [hT])
      clear hT
      gi_wp2
      exact ⟨HKe2.out.from _, HBt.out, hW2, fun y hy => by
        rcases List.mem_append.1 hy with hy | hy
        · exact HNo.out y hy
        · rw [List.mem_singleton.1 hy]; exact HU.out⟩
    · have e1 : (T1.toList == T2.toList) = false := by
        simp only [beq_eq_false_iff_ne, ne_eq]
        exact fun h => hT (bytes_ext h)
      have HU : Hid (unlike l m x.v = true) := Lib.hid (by unfold unlike; rw [HTn.out.1, HTn.out.2]; simp [hT])
      have HK9w := Lib.hid (HK9.out.below hW2 (by omega))
      have HK10w := Lib.hid (HK10.out.below hW2 (by omega))
      have HK11w := Lib.hid (HK11.out.below hW2 (by omega))
      have c9 := HK9w.out.cells 0 _ rfl
      have c10 := HK10w.out.cells 0 _ rfl
      have c11 := HK11w.out.cells 0 _ rfl
      have f9 := HK9w.out.frozen 0
      have f10 := HK10w.out.frozen 0
      have f11 := HK11w.out.frozen 0
      simp only [List.getElem_toArray, List.getElem_cons_zero] at c9 c10 c11
      clear hT
      gi_wp2
      refine ⟨(((HKe2.out.trans (KeepsOthers.setCell _ _ _)).trans (KeepsOthers.setCell _ _ _)).trans (KeepsOthers.setCell _ _ _)).from _, rfl, pre, x, rfl, HNo.out, HU.out, ?_, ?_, ?_, ?_, ?_⟩
      · exact (((HBs.out.trans (hW2.mono (by omega))).setCell (by simp; omega) _).setCell (by simp; omega) _).setCell (by simp; omega) _
      · simp; omega
      · rw [HTn.out.1]
        have := ((HK9w.out.set_ 0 (.string T1)).far (p := ⟨o + 1, 0, none⟩) (by simp) (.string T2)).far (p := ⟨o + 1 + 1, 0, none⟩) (by simp; omega) (.bool true)
        simpa using this
      · rw [HTn.out.2]
        have := ((HK10w.out.far (p := ⟨o, 0, none⟩) (by simp) (.string T1)).set_ 0 (.string T2)).far (p := ⟨o + 1 + 1, 0, none⟩) (by simp) (.bool true)
        simpa using this
      · have := ((HK11w.out.far (p := ⟨o, 0, none⟩) (by simp; omega) (.string T1)).far (p := ⟨o + 1, 0, none⟩) (by simp) (.string T2)).set_ 0 (.bool true)
        simpa using this
  case done =>
    rintro D ys W hD hys ⟨hW, hno⟩ hK
    have hz : findTwo l m (downL H) = noTwo := find_none hys hno
    have HB := Lib.hid (HBs.out.trans (hW.mono (by omega)))
    have HK9w := Lib.hid (HK9.out.below hW (by omega))
    have HK10w := Lib.hid (HK10.out.below hW (by omega))
    have HK11w := Lib.hid (HK11.out.below hW (by omega))
    have c9 := HK9w.out.cells 0 _ rfl
    have c10 := HK10w.out.cells 0 _ rfl
    have c11 := HK11w.out.cells 0 _ rfl
    simp only [List.getElem_toArray, List.getElem_cons_zero] at c9 c10 c11
    have HKd := Lib.hid hK
    have HZ := Lib.hid hz
    clear hno hys hz hK
    gi_wp2
    refine (wpIn_wide (n := 10)).2 ?_
    go_quiet (fail)
    gi_wp2
    have hKd : (W.drewN nq).heap[D]? = some (.deferred (some [])) := HKd.out
    refine ⟨by simp, .inl ⟨_, _, rfl, run_takeDeferred hKd, ?_⟩⟩
    exact ⟨_, results_tmp3 rfl _ _ _, by rw [HZ.out]; exact ⟨rfl, (below_drewN HB.out nq).trans (belowK_b (n₀ := w.heap.size) (w := W0) (by omega) (W.drewN nq) D _ _ hD hKd rfl rfl)⟩⟩
  case stop =>
    rintro D cd pre W hD hpre ⟨rfl, pre0, x, rfl, hno, hx, hB, hoW, k9, k10, k11⟩ hK
    have hz := find_some hpre hno hx
    have HB := Lib.hid hB
    have HKd := Lib.hid hK
    have c9 := k9.cells 0 _ rfl
    have c10 := k10.cells 0 _ rfl
    have c11 := k11.cells 0 _ rfl
    simp only [List.getElem_toArray, List.getElem_cons_zero] at c9 c10 c11
    have HZ := Lib.hid hz
    clear hno hpre hz hK hB hx k9 k10 k11
    gi_wp2
    refine (wpIn_wide (n := 10)).2 ?_
    go_quiet (fail)
    gi_wp2
    have hKd : (W.drewN nq).heap[D]? = some (.deferred (some [])) := HKd.out
    refine ⟨by simp, .inl ⟨_, _, rfl, run_takeDeferred hKd, ?_⟩⟩
    exact ⟨_, results_tmp3 rfl _ _ _, by rw [HZ.out]; exact ⟨rfl, (below_drewN HB.out nq).trans (belowK_b (n₀ := w.heap.size) (w := W0) (by omega) (W.drewN nq) D _ _ hD hKd rfl rfl)⟩⟩
set_option maxRecDepth 100000 in
set_option maxHeartbeats 1000000 in
theorem coll_dif (l m : List ByteArray) (A A' : Option Addr) (n c c' H : Nat) (w : World) (hG : Rounds w) (hL : SlR encS 1 w w.heap.size A n l) (hM : SlR encS 1 w w.heap.size A' n m)
    (hmay : mayB n = true) (hn : n = 2 ^ H) (hH : H ≤ 10) (hne : textsB l m = false) (hls : ∀ x ∈ l, x.size ≤ 140737488351232) (hms : ∀ x ∈ m, x.size ≤ 140737488351232)
    (hrt : atB (lev l H) 0 ≠ atB (lev m H) 0) :
    Calls Tryz.prog 13 #[.slice A n c, .slice A' n c'] w (TwoPost noTwo w) := by
  have hn2 : n ≤ 1024 := by rw [hn]; exact Nat.le_trans (pow_le_two hH) (by decide)
  have hMy := mayroot_any n w (by omega)
  rw [hmay] at hMy
  have HMy := Lib.hid hMy
  have hE := sequal_any l m A A' n n c c' w hL hM (by omega) (by omega)
  rw [hne] at hE
  have HE := Lib.hid hE
  have HLl : Hid (l.length = 2 ^ H) := Lib.hid (by rw [hL.1, hn])
  have HLm : Hid (m.length = 2 ^ H) := Lib.hid (by rw [hM.1, hn])
  have HL := Lib.hid hL
  have HM := Lib.hid hM
  have HG := Lib.hid hG
  have HRl := Lib.hid (fun W (h1 : Rounds W) (h2 : SlR encS 1 W W.heap.size A n l) => rowsOf_any l A n c H W h1 h2 hn hH hls)
  have HRm := Lib.hid (fun W (h1 : Rounds W) (h2 : SlR encS 1 W W.heap.size A' n m) => rowsOf_any m A' n c' H W h1 h2 hn hH hms)
  obtain ⟨r1, hr1⟩ : ∃ r, atB (lev l H) 0 = r := ⟨_, rfl⟩
  obtain ⟨r2, hr2⟩ : ∃ r, atB (lev m H) 0 = r := ⟨_, rfl⟩
  rw [hr1, hr2] at hrt
  have HR1 := Lib.hid hr1
  have HR2 := Lib.hid hr2
  have e1 : (r1.toList == r2.toList) = false := by
    simp only [beq_eq_false_iff_ne, ne_eq]
    exact fun h => hrt (bytes_ext h)
  have e2 : (r1.toList != r2.toList) = true := by
    simp only [bne_iff_ne, ne_eq]
    exact fun h => hrt (bytes_ext h)
  have t0 : ((n : Int) == (n : Int)) = true := by simp
  have t0b : ((n : Int) != (n : Int)) = false := by simp
  clear hMy hE hL hM hG hmay hn hne hls hms hrt hr1 hr2
  go_enter Tryz.func13, Tryz.ntmps13
  go_wp2_with fail
  go_step3
  go_wp2_with fail
  refine HMy.out.mono ?_
  rintro e w1 ⟨rfl, rfl⟩
  go_wp2_with fail
  refine HE.out.mono ?_
  rintro e w1 ⟨rfl, hB1⟩
  have HL1 := Lib.hid ((HL.out.below hB1).more hB1.size)
  have HM1 := Lib.hid ((HM.out.below hB1).more hB1.size)
  clear HMy HE HL HM
  go_wp2_with fail
  refine (HRl.out _ (rounds_of HG.out hB1) HL1.out).mono ?_
  rintro e w2 ⟨hb2, A2, c2, rfl, h21, h22, HRo2⟩
  have hB2 := hB1.trans (hb2.mono hB1.size)
  have HM2 := Lib.hid ((HM1.out.below hb2).more hb2.size)
  clear HL1 HM1 hB1 hb2 HRl
  go_wp2_with fail
  refine (HRm.out _ (rounds_of HG.out hB2) HM2.out).mono ?_
  rintro e w3 ⟨hb3, A3, c3, rfl, h31, h32, HRo3⟩
  have hB3 := hB2.trans (hb3.mono hB2.size)
  have HR2' := Lib.hid ((HRo2.out.below hb3).more hb3.size)
  clear HM2 hB2 hb3 HRm HRo2
  have HTa : Hid (Tree ((w3.alloc (.cells #[.slice A n c, .slice A2 (H + 1) c2] 81)).alloc (.cells #[.slice A' n c', .slice A3 (H + 1) c3] 81)) w3.heap.size (.slice A n c) l H) := Lib.hid ((tree_new HR2'.out h21 h22).below (by go_grown))
  have HTb : Hid (Tree ((w3.alloc (.cells #[.slice A n c, .slice A2 (H + 1) c2] 81)).alloc (.cells #[.slice A' n c', .slice A3 (H + 1) c3] 81)) (w3.heap.size + 1) (.slice A' n c') m H) := Lib.hid (by
    have := tree_new (w := w3.alloc (.cells #[.slice A n c, .slice A2 (H + 1) c2] 81)) (T := .slice A' n c') (l := m) (h := H) ((HRo3.out.below (by go_grown)).more (by simp)) h31 h32
    simpa using this)
  have hz3 := hB3.size
  have hB4 : Below w.heap.size w ((w3.alloc (.cells #[.slice A n c, .slice A2 (H + 1) c2] 81)).alloc (.cells #[.slice A' n c', .slice A3 (H + 1) c3] 81)) := Below.trans hB3 (by go_grown)
  go_wp2_with fail
  refine (root_any _ w3.heap.size H _ l HTa.out HLl.out hH).mono ?_
  rintro e w5 ⟨rfl, hb5⟩
  rw [HR1.out]
  have hB5 := hB4.trans (hb5.mono hB4.size)
  have HTb5 := Lib.hid (HTb.out.below hb5)
  clear HTa HTb HR2' HRo3 hB4 hb5
  go_wp2_with fail
  refine (root_any _ (w3.heap.size + 1) H _ m HTb5.out HLm.out hH).mono ?_
  rintro e w6 ⟨rfl, hb6⟩
  rw [HR2.out]
  have hB6 := hB5.trans (hb6.mono hB5.size)
  clear HTb5 hB5 hb6
  go_wp2_with fail
  refine bodyPost_ret (results_tmp3 rfl _ _ _) rfl ?_
  exact two_no hB6
theorem coll_any (l m : List ByteArray) (A A' : Option Addr) (n c k c' : Nat) (w : World) (hG : Rounds w) (hL : SlR encS 1 w w.heap.size A n l) (hM : SlR encS 1 w w.heap.size A' k m) (hn : n ≤ 140737488351232) (hk : k ≤ 140737488351232)
    (hls : ∀ x ∈ l, x.size ≤ 140737488351232) (hms : ∀ x ∈ m, x.size ≤ 140737488351232) :
    Calls Tryz.prog 13 #[.slice A n c, .slice A' k c'] w (TwoPost (collF l m) w) := by
  cases h : (decide (n = k) && (mayB n && decide (l ≠ m)))
  · have : collF l m = noTwo := by
      have hc : collOk l m = false := by
        unfold collOk
        rw [hL.1, hM.1]
        cases h1 : decide (n = k) <;> cases h2 : mayB n <;> cases h3 : decide (l ≠ m) <;> simp_all
      simp [collF, hc]
    rw [this]
    exact coll_out l m A A' n c k c' w hL hM hn hk h
  · simp only [Bool.and_eq_true, decide_eq_true_eq] at h
    obtain ⟨rfl, hmay, hne⟩ := h
    obtain ⟨hp, hH⟩ := hgt_may hmay
    have hlm : textsB l m = false := by simp [textsB, hne]
    have hr1 : rootB l = atB (lev l (hgt n)) 0 := by rw [rootB, hL.1]
    have hr2 : rootB m = atB (lev m (hgt n)) 0 := by rw [rootB, hM.1]
    by_cases hr : atB (lev l (hgt n)) 0 = atB (lev m (hgt n)) 0
    · have : collF l m = findTwo l m (downL (hgt n)) := by
        have hc : collOk l m = true := by
          unfold collOk
          rw [hL.1, hM.1, hmay, hr1, hr2]
          simp [hne, hr]
        simp [collF, hc, hL.1]
      rw [this]
      exact coll_in l m A A' n c c' (hgt n) w hG hL hM hmay hp hH hlm hls hms hr
    · have : collF l m = noTwo := by
        have hc : collOk l m = false := by
          unfold collOk
          rw [hL.1, hM.1, hmay, hr1, hr2]
          simp [hr]
        simp [collF, hc]
      rw [this]
      exact coll_dif l m A A' n c c' (hgt n) w hG hL hM hmay hp hH hlm hls hms hr
end Go.Proofs.YtpkomloblhbkiaaGreatDoor
