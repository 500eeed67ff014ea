/- top26: what a vault has. -/
import Derived.Test.YtpkomloblhbkiaaGreatDoorVolC
import Derived.Test.YtpkomloblhbkiaaGreatDoorNonB
import Derived.Deep.QuietTactic
import Derived.BigQuiet
import Derived.Test.YtpkomloblhbkiaaGreatDoorVauA
import Derived.Test.YtpkomloblhbkiaaGreatDoorWideReg
import Derived.Test.YtpkomloblhbkiaaGreatDoorORow
import Derived.Test.YtpkomloblhbkiaaGreatDoorTexts
import Derived.BigRegion
set_option linter.unusedVariables false
set_option linter.unusedSimpArgs false
/- top: many, short, rows. -/
namespace Go.Proofs.YtpkomloblhbkiaaGreatDoor
open Go.RowKit
set_option maxHeartbeats 400000 in
theorem topmany_any (c : UInt8) (n : Nat) (w : World) (hn : n ≤ 1000000) :
    Calls Tryz.prog 19 #[.int .u8 c.toNat, .int .i64 n] w fun e w' => e = .returned (.string (tmanyB c n)) ∧ Below w.heap.size w w' := by
  have hmk := run_mkrow (P := Tryz.prog) 113 5 (.int .u8 0) 1 Tryz.underlying113 byte_info rfl n (by omega) (by omega)
  have hR0 : Hid (Row vB (w.alloc (.cells (List.replicate n (Value.int .u8 0)).toArray 5)) w.heap.size 5 (List.replicate 0 c ++ List.replicate (n - 0) 0)) := by
    refine Lib.hid ?_
    have := Row.new (f := vB) w 5 n 0
    rw [show vB 0 = Value.int .u8 0 from rfl] at this
    rw [List.replicate_zero, List.nil_append, Nat.sub_zero]
    exact this
  go_enter Tryz.func19, Tryz.ntmps19
  go_wp2_with fail
  clear hmk
  go_loopw [6] (fun iv wr => ∃ k : Nat, k ≤ n ∧ iv = .int .i64 k ∧ Hid (Row vB wr w.heap.size 5 (List.replicate k c ++ List.replicate (n - k) 0)) ∧ Below w.heap.size w wr) (fun iv _ => n - (intOf iv).toNat)
  case atStart => exact ⟨0, by omega, rfl, hR0, by go_grown⟩
  case round =>
    clear hR0
    obtain ⟨k, hk, rfl, HR, hB⟩ := hrel
    by_cases hlt : k < n
    · obtain ⟨x, hx⟩ : ∃ x, (List.replicate k c ++ List.replicate (n - k) 0)[k]? = some x := ⟨_, List.getElem?_eq_getElem (by simp; omega)⟩
      have c0 := HR.out.get hx
      have f0 := HR.out.free k
      have HE := Lib.hid (tmany_step c n k hlt)
      have hlt2 := HR.out.lt
      clear hx
      go_wp2_with fail
      go_roundw
      case rel => exact ⟨k + 1, by omega, by go_num, Lib.hid (by have := HR.out.set_ k c; rw [HE.out] at this; exact this), by go_grown⟩
      case measure => simp [intOf]; omega
    · obtain rfl : k = n := by omega
      have hrow : Blk wr w.heap.size 5 ((List.replicate k c).map vB).toArray := by
        have := HR.out
        simpa [Row] using this
      have hcv := run_blk (P := Tryz.prog) (L := List.replicate k c) (n := k) (c := k) 113 9 5 Tryz.underlying113 Tryz.underlying5 Tryz.underlying9 (by simp) hrow
      clear hrow
      go_wp2
      go_ret
      exact ⟨rfl, hB⟩
def longT (s : ByteArray) : Bool := decide (200 < s.size)
set_option maxHeartbeats 1000000 in
theorem short_any (L : List ByteArray) (A : Option Addr) (n c : Nat) (w : World) (hL : SlR encS 1 w w.heap.size A n L) (hn : n ≤ 1000) :
    Calls Tryz.prog 9 #[.slice A n c] w fun e w' => e = .returned (.bool (!L.any longT)) ∧ w = w' := by
  have hl := hL.1
  rcases hL.2 with h0 | ⟨b, off, rfl, hb, hC⟩
  · obtain rfl : L = [] := List.eq_nil_of_length_eq_zero (by omega)
    subst h0
    clear hL hl
    go_enter Tryz.func9, Tryz.ntmps9
    go_wp2_with fail
    go_loopw [3] (fun iv wr => iv = .int .i64 0 ∧ Hid (w = wr)) (fun iv _ => 0)
    case atStart => exact ⟨rfl, Lib.hid rfl⟩
    case round =>
      obtain ⟨rfl, HW⟩ := hrel
      go_wp2_with fail
      go_ret
      exact ⟨rfl, HW.out⟩
  · have HC := Lib.hid (fun (i : Nat) (x : ByteArray) (hx : L[i]? = some x) => hC.str hx)
    have HL := Lib.hid hl
    have HV : Hid (∀ (i : Nat) (x : ByteArray), L[i]? = some x → 200 < x.size → (!L.any longT) = false) := Lib.hid (fun i x hx h => by
      have : L.any longT = true := List.any_eq_true.2 ⟨x, List.mem_of_getElem? hx, by simp [longT, h]⟩
      rw [this]; rfl)
    have HV2 : Hid ((∀ (i : Nat) (x : ByteArray), L[i]? = some x → x.size ≤ 200) → (!L.any longT) = true) := Lib.hid (fun h => by
      have : L.any longT = false := List.any_eq_false.2 (fun x hx => by
        obtain ⟨i, hi⟩ := List.getElem?_of_mem hx
        have := h i x hi
        simp [longT]; omega)
      rw [this]; rfl)
    generalize (!L.any longT) = V at *
    clear hL hl hC hb
    go_enter Tryz.func9, Tryz.ntmps9
    go_wp2_with fail
    go_loopw [3] (fun iv wr => ∃ i : Nat, i ≤ n ∧ iv = .int .i64 i ∧ Hid (∀ (j : Nat) (x : ByteArray), j < i → L[j]? = some x → x.size ≤ 200) ∧ Hid (w = wr)) (fun iv _ => n - (intOf iv).toNat)
    case atStart => exact ⟨0, by omega, rfl, Lib.hid (fun j x hj _ => by omega), Lib.hid rfl⟩
    case round =>
      obtain ⟨i, hi, rfl, HU, HB⟩ := hrel
      by_cases hlt : i < n
      · obtain ⟨x, hx⟩ : ∃ x, L[i]? = some x := ⟨_, List.getElem?_eq_getElem (by rw [HL.out]; exact hlt)⟩
        have cx := HC.out i x hx
        rw [HB.out] at cx
        have i0 : (0 : Int) ≤ (i : Int) := by omega
        have i1 : (i : Int) < (n : Int) := by omega
        have HX := Lib.hid hx
        clear hx
        by_cases hbig : 200 < x.size
        · have hVV := HV.out i x HX.out hbig
          subst hVV
          go_wp2_with fail
          go_ret
          exact ⟨rfl, HB.out⟩
        · have hbig2 : ¬ (200 : Int) < (x.size : Int) := by omega
          go_wp2_with fail
          go_roundw
          case rel => exact ⟨i + 1, by omega, by go_num, Lib.hid (fun j y hj hy => by
            by_cases hji : j = i
            · subst hji
              rw [HX.out] at hy
              injection hy with hy
              subst hy
              omega
            · exact HU.out j y (by omega) hy), HB⟩
          case measure => simp [intOf]; omega
      · have i1 : ¬ (i : Int) < (n : Int) := by omega
        have hVV := HV2.out (fun j x hx => HU.out j x (by have := (List.getElem?_eq_some_iff.1 hx).1; have := HL.out; omega) hx)
        subst hVV
        go_wp2_with fail
        go_ret
        exact ⟨rfl, HB.out⟩
set_option maxHeartbeats 1000000 in
theorem trows_any (L M : List ByteArray) (A A' : Option Addr) (n c m d : Nat) (w : World) (hL : SlR encS 1 w w.heap.size A n L) (hM : SlR encS 1 w w.heap.size A' m M) (hn : n ≤ 1000) :
    Calls Tryz.prog 12 #[.slice A n c, .slice A' m d] w fun e w' => e = .returned (.bool (decide (L = M))) ∧ Below w.heap.size w w' := by
  have hl := hL.1
  have hm := hM.1
  by_cases hnm : n = m
  · subst hnm
    have e1 : ((n : Int) == (n : Int)) = true := by simp
    have e2 : ((n : Int) != (n : Int)) = false := by simp
    have HLL := Lib.hid (And.intro hl hm)
    have HV : Hid (∀ (i : Nat) (x y : ByteArray), L[i]? = some x → M[i]? = some y → x ≠ y → decide (L = M) = false) := Lib.hid (fun i x y hx hy h => by
      have : L ≠ M := fun e => by subst e; rw [hx] at hy; injection hy with hy; exact h hy
      simp [this])
    have HV2 : Hid ((∀ (i : Nat), i < n → L[i]? = M[i]?) → decide (L = M) = true) := Lib.hid (fun h => by
      have : L = M := List.ext_getElem? (fun i => by
        by_cases hi : i < n
        · exact h i hi
        · rw [List.getElem?_eq_none (by omega), List.getElem?_eq_none (by omega)])
      simp [this])
    have HC : Hid (∀ (W : World) (i : Nat) (x : ByteArray), Below w.heap.size w W → L[i]? = some x → ∃ b off, A = some ⟨b, off, none⟩ ∧ W.cell? ⟨b, off + i, none⟩ = some (.string x)) := Lib.hid (fun W i x hW hx => by
      rcases hL.2 with h0 | ⟨b, off, rfl, hb, hC⟩
      · have := (List.getElem?_eq_some_iff.1 hx).1; omega
      · exact ⟨b, off, rfl, (hC.below hW hb).str hx⟩)
    have HD : Hid (∀ (W : World) (i : Nat) (x : ByteArray), Below w.heap.size w W → M[i]? = some x → ∃ b off, A' = some ⟨b, off, none⟩ ∧ W.cell? ⟨b, off + i, none⟩ = some (.string x)) := Lib.hid (fun W i x hW hx => by
      rcases hM.2 with h0 | ⟨b, off, rfl, hb, hC⟩
      · have := (List.getElem?_eq_some_iff.1 hx).1; omega
      · exact ⟨b, off, rfl, (hC.below hW hb).str hx⟩)
    generalize decide (L = M) = V at *
    clear hL hM hl hm
    go_enter Tryz.func12, Tryz.ntmps12
    go_wp2_with fail
    go_loopw [5] (fun iv wr => ∃ i : Nat, i ≤ n ∧ iv = .int .i64 i ∧ Hid (∀ j, j < i → L[j]? = M[j]?) ∧ Hid (Below w.heap.size w wr)) (fun iv _ => n - (intOf iv).toNat)
    case atStart => exact ⟨0, by omega, rfl, Lib.hid (fun j hj => by omega), Lib.hid (Below.refl _ _)⟩
    case round =>
      obtain ⟨i, hi, rfl, HU, HB⟩ := hrel
      by_cases hlt : i < n
      · obtain ⟨x, hx⟩ : ∃ x, L[i]? = some x := ⟨_, List.getElem?_eq_getElem (by rw [HLL.out.1]; exact hlt)⟩
        obtain ⟨y, hy⟩ : ∃ y, M[i]? = some y := ⟨_, List.getElem?_eq_getElem (by rw [HLL.out.2]; exact hlt)⟩
        obtain ⟨b, off, rfl, cx⟩ := HC.out wr i x HB.out hx
        obtain ⟨b', off', rfl, cy⟩ := HD.out wr i y HB.out hy
        have i0 : (0 : Int) ≤ (i : Int) := by omega
        have i1 : (i : Int) < (n : Int) := by omega
        have HX := Lib.hid (And.intro hx hy)
        clear hx hy
        by_cases hxy : x = y
        · obtain ⟨t1, t2⟩ := txt_eq hxy
          have HXY := Lib.hid hxy
          clear hxy
          go_wp2_with fail
          go_big_quiet (fail)
          go_wp2_with fail
          go_roundw
          case rel => exact ⟨i + 1, by omega, by go_num, Lib.hid (fun j hj => by
            by_cases hji : j = i
            · subst hji
              rw [HX.out.1, HX.out.2, HXY.out]
            · exact HU.out j (by omega)), Lib.hid (below_drewN HB.out _)⟩
          case measure => simp [intOf]; omega
        · obtain ⟨t1, t2⟩ := txt_ne hxy
          have hVV := HV.out i x y HX.out.1 HX.out.2 hxy
          subst hVV
          clear hxy
          go_wp2_with fail
          go_big_quiet (fail)
          go_wp2_with fail
          go_ret
          exact ⟨rfl, below_drewN HB.out _⟩
      · have i1 : ¬ (i : Int) < (n : Int) := by omega
        have hVV := HV2.out (fun j hj => HU.out j (by omega))
        subst hVV
        go_wp2_with fail
        go_ret
        exact ⟨rfl, HB.out⟩
  · have hv : decide (L = M) = false := by
      have : L ≠ M := fun e => hnm (by rw [← hl, ← hm, e])
      simp [this]
    rw [hv]
    have e1 : ((n : Int) == (m : Int)) = false := by simp; omega
    have e2 : ((n : Int) != (m : Int)) = true := by simp; omega
    clear hL hM
    go_enter Tryz.func12, Tryz.ntmps12
    go_wp2_with fail
    go_ret
    exact ⟨rfl, Below.refl _ _⟩
end Go.Proofs.YtpkomloblhbkiaaGreatDoor
/- volume, plain: what is hidden is shown. -/
namespace Go.Proofs.YtpkomloblhbkiaaGreatDoor
open Go.RowKit
theorem show_hide {key nonce : ByteArray} {i : Int} {s : ByteArray} (h : (hideV key nonce i s).2 = 0) : showV key i (hideV key nonce i s).1 = (s, 0) := by
  obtain ⟨h1, h2, h3, h4, h5⟩ := hide_ok h
  have hz := hide_size h
  have hs : sealF key nonce (besideB i.toNat) s = ((sealF key nonce (besideB i.toNat) s).1, 0) := Prod.ext rfl h4
  have ho := seal_open hs
  rw [h5] at hz ⊢
  generalize (sealF key nonce (besideB i.toNat) s).1 = x at *
  have hne : (nonce ++ x).toList ≠ [] := fun e => by
    have e2 : (nonce ++ x).toList.length = (nonce ++ x).size := by rw [Lib.toList_data]; exact Array.length_toList
    rw [e] at e2
    simp only [List.length_nil] at e2
    omega
  have f1 := front_append nonce x
  have f2 := back_append nonce x
  rw [h3] at f1 f2
  unfold showV
  rw [if_neg (by rw [h1]; decide), if_neg hne, if_neg (by omega), f1, f2, ho, if_pos rfl]
theorem hide_front {key nonce : ByteArray} {i : Int} {s : ByteArray} (h : (hideV key nonce i s).2 = 0) : (hideV key nonce i s).1.extract 0 12 = nonce := by
  obtain ⟨_, _, h3, _, h5⟩ := hide_ok h
  have f1 := front_append nonce (sealF key nonce (besideB i.toNat) s).1
  rw [h3] at f1
  rw [h5, f1]
/-- a block is hidden where its place, its text, the key and the nonce are right -/
theorem hide_fits {key nonce : ByteArray} {i : Int} {s : ByteArray} (hp : placeI i = true) (hs : s.size ≤ 64) (hk : key.size = 32) (hn : nonce.size = 12) : (hideV key nonce i s).2 = 0 := by
  have hi : 0 ≤ i ∧ i < 64 := by simpa [placeI] using hp
  have hb := beside_size (show i.toNat < 64 by omega)
  have h4 : (sealF key nonce (besideB i.toNat) s).2 = 0 := by
    unfold sealF
    repeat' split
    all_goals first | rfl | (exfalso; omega)
  unfold hideV
  rw [if_neg (by rw [hp]; decide), if_neg (by omega), if_pos h4]
end Go.Proofs.YtpkomloblhbkiaaGreatDoor
/- top, plain: two rows of one root; nonces of a bare disk; what a vault tells. -/
namespace Go.Proofs.YtpkomloblhbkiaaGreatDoor
open Go.RowKit
theorem told_size {l : List ByteArray} (hs : ∀ s ∈ l, s.size ≤ 1000) (h j : Nat) : (toldT l h j).size ≤ 1001 := by
  cases h with
  | zero =>
    show (leafT (atB l j)).size ≤ _
    rw [leafT_size]
    have := atB_small hs j
    omega
  | succ h =>
    show (nodeT (atB (lev l h) (2 * j)) (atB (lev l h) (2 * j + 1))).size ≤ _
    rw [nodeT_size]
    have h1 := atB_small (L := lev l h) (n := 32) lev_small (2 * j)
    have h2 := atB_small (L := lev l h) (n := 32) lev_small (2 * j + 1)
    omega
theorem dn_mem (h : Nat) : ∀ (k i j : Nat), i < k → j < 2 ^ i → (h - i, j) ∈ dn h k := by
  intro k
  induction k with
  | zero => intro i j hi; omega
  | succ k ih =>
    intro i j hi hj
    rw [dn, List.mem_append]
    by_cases e : i = k
    · subst e
      exact .inr (List.mem_map.2 ⟨j, List.mem_range.2 hj, rfl⟩)
    · exact .inl (ih i j (by omega) hj)
theorem found_sum {l m : List ByteArray} {H : Nat} (hl : l.length = 2 ^ H) (hm : m.length = 2 ^ H) (hls : ∀ s ∈ l, s.size ≤ 1000) (hms : ∀ s ∈ m, s.size ≤ 1000) (hr : atB (lev l H) 0 = atB (lev m H) 0) :
    ∀ k, k ≤ H + 1 → ∀ p, (dn H k).find? (unlike l m) = some p → toldT l p.1 p.2 ≠ toldT m p.1 p.2 ∧ sumF (toldT l p.1 p.2) = sumF (toldT m p.1 p.2) := by
  intro k
  induction k with
  | zero => intro _ p hp; simp [dn] at hp
  | succ k ih =>
    intro hk p hp
    rw [dn, List.find?_append] at hp
    cases hx : (dn H k).find? (unlike l m) with
    | some q =>
      rw [hx] at hp
      simp only [Option.some_or, Option.some.injEq] at hp
      subst hp
      exact ih (by omega) _ hx
    | none =>
      rw [hx] at hp
      simp only [Option.none_or] at hp
      have hu := List.find?_some hp
      obtain ⟨j, hj, rfl⟩ := List.mem_map.1 (List.mem_of_find?_eq_some hp)
      have hjk := List.mem_range.1 hj
      refine ⟨of_decide_eq_true hu, ?_⟩
      have hHk : H - (H - k) = k := by omega
      have e1 := atB_lev (i := H - k) (j := j) hl (by omega) (by rw [hHk]; exact hjk)
      have e2 := atB_lev (i := H - k) (j := j) hm (by omega) (by rw [hHk]; exact hjk)
      show sumF (toldT l (H - k) j) = sumF (toldT m (H - k) j)
      rw [← e1, ← e2]
      cases k with
      | zero =>
        have hj0 : j = 0 := by simpa using hjk
        subst hj0
        exact hr
      | succ k =>
        have hj2 : j / 2 < 2 ^ k := by rw [Nat.pow_succ] at hjk; omega
        have hno := List.find?_eq_none.1 hx _ (dn_mem H (k + 1) k (j / 2) (by omega) hj2)
        have hno : toldT l (H - k) (j / 2) = toldT m (H - k) (j / 2) := by
          unfold unlike at hno
          simpa using hno
        have hs : H - k = (H - (k + 1)) + 1 := by omega
        rw [hs] at hno
        have hq : ∀ t, t < 2 → 2 * (j / 2) + t < 2 ^ (H - (H - (k + 1))) := fun t ht => by
          rw [hHk, Nat.pow_succ]
          omega
        have z1 : ∀ {x : List ByteArray}, x.length = 2 ^ H → (∀ s ∈ x, s.size ≤ 1000) → (atB (lev x (H - (k + 1))) (2 * (j / 2))).size = 32 := fun hx hxs => by
          rw [atB_lev hx (by omega) (by simpa using hq 0 (by omega))]
          exact sumF_size (by have := told_size hxs (H - (k + 1)) (2 * (j / 2)); omega)
        obtain ⟨a1, a2⟩ := nodeT_inj ((z1 hl hls).trans (z1 hm hms).symm) hno
        by_cases hp2 : j % 2 = 0
        · have : 2 * (j / 2) = j := by omega
          rw [this] at a1
          exact a1
        · have : 2 * (j / 2) + 1 = j := by omega
          rw [this] at a2
          exact a2
/-- two rows of one root, not the same: Collide shows two texts with one Sum -/
theorem coll_shows {l m : List ByteArray} (hlen : l.length = m.length) (hm : mayB l.length = true) (hne : l ≠ m) (hr : rootB l = rootB m) (hls : ∀ s ∈ l, s.size ≤ 1000) (hms : ∀ s ∈ m, s.size ≤ 1000) :
    ∃ a b, collF l m = ⟨a, b, true⟩ ∧ a ≠ b ∧ sumF a = sumF b ∧ a.size ≤ 1001 ∧ b.size ≤ 1001 := by
  obtain ⟨hp, _⟩ := hgt_may hm
  have hpm : m.length = 2 ^ hgt l.length := by rw [← hlen]; exact hp
  have hr2 : atB (lev l (hgt l.length)) 0 = atB (lev m (hgt l.length)) 0 := by
    have := hr
    unfold rootB at this
    rw [← hlen] at this
    exact this
  have hc : collOk l m = true := by
    unfold collOk
    simp [hlen, hm, hne, hr]
    rw [← hlen]; exact hm
  unfold collF
  rw [if_pos hc]
  unfold findTwo
  cases hx : (downL (hgt l.length)).find? (unlike l m) with
  | some p =>
    obtain ⟨h1, h2⟩ := found_sum hp hpm hls hms hr2 _ (Nat.le_refl _) p hx
    exact ⟨_, _, rfl, h1, h2, told_size hls _ _, told_size hms _ _⟩
  | none =>
    exfalso
    apply hne
    apply List.ext_getElem hlen
    intro i h1 h2
    have hno := List.find?_eq_none.1 hx _ (dn_mem (hgt l.length) (hgt l.length + 1) (hgt l.length) i (by omega) (by rw [← hp]; exact h1))
    have hno : toldT l 0 i = toldT m 0 i := by
      unfold unlike at hno
      simpa using hno
    have := leafT_inj hno
    rw [← atB_of (List.getElem?_eq_getElem h1), ← atB_of (List.getElem?_eq_getElem h2)]
    exact this
/-- a bare disk of three sectors, on which 16 r nonces are reserved -/
def NGood (p : Plat) (r : Nat) : Prop := p.cache = [] ∧ p.sectors.length = 3 ∧ ∃ x ok, getF p 0 = (x, ok, 0) ∧ ((ok = false ∧ r = 0) ∨ (ok = true ∧ x = digB (16 * r)))
theorem ngood_len {p : Plat} {r : Nat} (h : NGood p r) : p.sectors.length = 3 ∧ p.cache.length = 0 := ⟨h.2.1, by rw [h.1]; rfl⟩
theorem ngood_open {p : Plat} {r : Nat} (h : NGood p r) (hr : r < 104) : openN p 0 = (⟨0, ((16 * r : Nat) : Int), ((16 * r : Nat) : Int)⟩, 0) := by
  obtain ⟨_, _, x, ok, hg, hc⟩ := h
  unfold openN
  rw [hg]
  rcases hc with ⟨rfl, rfl⟩ | ⟨rfl, rfl⟩
  · simp
  · simp [(dig_16 hr).1]
def P33 : Plat := (newF 3).1
theorem ngood_new : newF 3 = (P33, 0) := by kernel_rfl
theorem ngood_start : NGood P33 0 := ⟨by kernel_rfl, by kernel_rfl, ⟨#[]⟩, false, by kernel_rfl, .inl ⟨rfl, rfl⟩⟩
theorem ngood_crash {p : Plat} {r : Nat} (h : NGood p r) (F : List Int) : crashF p F = (p, 0) := by
  obtain ⟨h1, _, x, ok, hg, _⟩ := h
  have hz : (getF p 0).2.2 = 0 := by rw [hg]
  obtain ⟨hc, _⟩ := read_pos (get_read hz)
  exact crash_bare hc h1 F
theorem put_whole {p : Plat} {i : Int} {s : ByteArray} {most : Int} (h : (putF p i s most).2.2 = 0) (hm : mostN most = 4) : (putF p i s most).2.1 = true := by
  have hg := put_get h
  rw [putF_do hg] at h ⊢
  rw [hm] at h ⊢
  unfold doN at h ⊢
  split
  · rfl
  · rename_i hx
    rw [if_neg hx] at h
    exact absurd h hx
theorem ngood_next {p : Plat} {r nx : Nat} (h : NGood p r) (hr : r < 103) (hn : nx ≤ 16 * r) :
    ∃ (a : Plat) (r' : Nat), nextN p ⟨0, (nx : Int), ((16 * r : Nat) : Int)⟩ (-1) = (nonB nx, ⟨0, ((nx + 1 : Nat) : Int), ((16 * r' : Nat) : Int)⟩, a, 0) ∧ NGood a r' ∧ nx + 1 ≤ 16 * r' ∧ r' ≤ r + 1 := by
  have hr0 : rightB (nx : Int) ((16 * r : Nat) : Int) = true := by rw [right_iff]; omega
  by_cases hlt : nx < 16 * r
  · refine ⟨p, r, ?_, h, by omega, by omega⟩
    unfold nextN
    rw [if_neg (by dsimp only; rw [hr0]; simp), if_pos (by dsimp only; omega)]
    dsimp only
    rw [Int.toNat_natCast, Int.natCast_add]
    rfl
  · obtain rfl : nx = 16 * r := by omega
    obtain ⟨h1, h2, x, ok, hg, hc⟩ := h
    have hz : (getF p 0).2.2 = 0 := by rw [hg]
    obtain ⟨d1, d2⟩ := dig_16 (show r + 1 < 104 by omega)
    have hf := put_fits (i := 0) (s := digB (16 * (r + 1))) h1 hz (by rw [h2]; decide) (by omega) (-1)
    have et : (((16 * r : Nat) : Int)).toNat + 16 = 16 * (r + 1) := by omega
    have hw := put_whole hf rfl
    obtain ⟨a, dn, er, hP⟩ : ∃ a dn er, putF p 0 (digB (16 * (r + 1))) (-1) = (a, dn, er) := ⟨_, _, _, rfl⟩
    rw [hP] at hf hw
    dsimp only at hf hw
    subst hf hw
    obtain ⟨c1, c2, c3⟩ := put_clean hP
    refine ⟨a, r + 1, ?_, ⟨c1, by rw [c2, h2], _, _, c3, .inr ⟨rfl, rfl⟩⟩, by omega, by omega⟩
    unfold nextN
    rw [if_neg (by dsimp only; rw [hr0]; simp), if_neg (by simp), if_neg (by dsimp only; omega)]
    dsimp only
    rw [et, hP]
    dsimp only
    have e1 : ((16 * r + 1 : Nat) : Int) = ((16 * r : Nat) : Int) + 1 := by omega
    have e2 : ((16 * (r + 1) : Nat) : Int) = ((16 * r : Nat) : Int) + 16 := by omega
    rw [if_neg (by simp), if_neg (by simp), e1, e2, Int.toNat_natCast]
/-- a volume, right in itself -/
structure Whole (v : Vol) (n : Nat) : Prop where
  vol : volB v = true
  rt : rootedB v = true
  len : v.blocks.length = n
theorem Whole.fit {v : Vol} {n : Nat} (h : Whole v n) (t : Bool) : fitV v t = if t = false then 1 else 0 := by
  have hr := h.rt
  simp only [rootedB, Bool.and_eq_true, decide_eq_true_eq] at hr
  unfold fitV
  rw [if_neg (by rw [h.vol]; decide), if_pos hr.2]
/-- the texts that a volume tells -/
def Tells (key : ByteArray) (v : Vol) (said : List ByteArray) : Prop := said.length = v.blocks.length ∧ ∀ i, i < said.length → showV key (i : Int) (v.blocks.getD i ByteArray.empty) = (said.getD i ByteArray.empty, 0)
theorem getD_set_same {L : List ByteArray} {k : Nat} (h : k < L.length) (s : ByteArray) : (L.set k s).getD k ByteArray.empty = s := by
  rw [List.getD_eq_getElem?_getD, List.getElem?_set_self h]; rfl
theorem getD_set_other {L : List ByteArray} {k i : Nat} (h : k ≠ i) (s : ByteArray) : (L.set k s).getD i ByteArray.empty = L.getD i ByteArray.empty := by
  rw [List.getD_eq_getElem?_getD, List.getElem?_set_ne h, List.getD_eq_getElem?_getD]
theorem write_may {v : Vol} {n k : Nat} {key nonce s : ByteArray} {said : List ByteArray} (h : Whole v n) (ht : Tells key v said) (hkey : key.size = 32) (hnon : nonce.size = 12) (hk : k < n) (hs : s.size ≤ 64) :
    ∃ u, writeV v key nonce (k : Int) s = (u, 0) ∧ Whole u n ∧ Tells key u (said.set k s) ∧ 12 ≤ (u.blocks.getD k ByteArray.empty).size ∧ (u.blocks.getD k ByteArray.empty).extract 0 12 = nonce := by
  have hv := (volB_iff v).1 h.vol
  obtain ⟨hm, h1, h64⟩ := count_may hv.1
  have hl := h.len
  have hf : fitV v (hasI v.blocks.length (k : Int)) = 0 := by
    rw [h.fit, if_neg]
    simp [hasI]; omega
  have hp : placeI (k : Int) = true := by simp [placeI]; omega
  have hz := hide_fits hp hs hkey hnon
  refine ⟨⟨v.blocks.set k (hideV key nonce k s).1, rootV (v.blocks.set k (hideV key nonce k s).1)⟩, ?_, ⟨?_, ?_, ?_⟩, ⟨?_, ?_⟩, ?_, ?_⟩
  · unfold writeV
    rw [if_pos hf, if_pos hz]
    simp
  · refine (volB_iff _).2 ⟨by simpa using hv.1, ?_, ?_⟩
    · refine root_size (by simpa using hm) ?_
      intro t ht
      rcases List.mem_or_eq_of_mem_set ht with h2 | rfl
      · have := hv.2.2 t h2; omega
      · have := hide_place hz; omega
    · intro t ht
      rcases List.mem_or_eq_of_mem_set ht with h2 | rfl
      · exact hv.2.2 t h2
      · exact hide_place hz
  · simp only [rootedB, Bool.and_eq_true, decide_eq_true_eq]
    exact ⟨by simpa using hm, trivial⟩
  · simpa using hl
  · simpa using ht.1
  · intro i hi
    rw [List.length_set] at hi
    dsimp only
    by_cases e : k = i
    · subst e
      rw [getD_set_same (by omega), getD_set_same hi]
      exact show_hide hz
    · rw [getD_set_other e, getD_set_other e]
      exact ht.2 i hi
  · dsimp only
    rw [getD_set_same (by omega), hide_size hz]
    omega
  · dsimp only
    rw [getD_set_same (by omega)]
    exact hide_front hz
theorem write_not {v : Vol} {n : Nat} {i : Int} {key nonce s : ByteArray} (h : Whole v n) (hno : ¬ (0 ≤ i ∧ i < n ∧ s.size ≤ 64)) : (writeV v key nonce i s).2 ≠ 0 := by
  unfold writeV
  rw [h.fit]
  have hl := h.len
  by_cases hh : hasI v.blocks.length i = false
  · rw [if_pos hh]; simp
  · rw [if_neg hh, if_pos rfl]
    have h2 : 0 ≤ i ∧ i < n := by simpa [hasI, hl] using hh
    have h64 := (count_may ((volB_iff v).1 h.vol).1).2.2
    have : (hideV key nonce i s).2 ≠ 0 := by
      unfold hideV
      have hp : placeI i = true := by simp [placeI]; omega
      rw [if_neg (by rw [hp]; decide), if_pos (by omega)]
      decide
    rw [if_neg this]
    exact this
theorem reads_told {v : Vol} {n k : Nat} {key : ByteArray} {said : List ByteArray} (h : Whole v n) (ht : Tells key v said) (hk : k < n) : readV v key (k : Int) = (said.getD k ByteArray.empty, 0) := by
  have hl := h.len
  have hs := ht.1
  have hf : fitV v (hasI v.blocks.length (k : Int)) = 0 := by
    rw [h.fit, if_neg]
    simp [hasI]; omega
  unfold readV
  rw [if_pos hf, Int.toNat_natCast]
  exact ht.2 k (by omega)
end Go.Proofs.YtpkomloblhbkiaaGreatDoor
namespace Go.Proofs.YtpkomloblhbkiaaGreatDoor
open Go.RowKit
/-- the cells of a House -/
def houseC (p p' q q' : Value) (s : Src) (key : ByteArray) (said drawn : Value) : Array Value := #[p, p', q, q', .int .i64 s.pos, .int .i64 s.next, .int .i64 s.limit, .string key, said, drawn]
theorem ext_upto {T L : List ByteArray} {n : Nat} (hT : T.length = n) (hL : L.length = n) (h : ∀ j, j < n → T.getD j ByteArray.empty = L.getD j ByteArray.empty) : T = L := by
  apply List.ext_getElem (hT.trans hL.symm)
  intro i h1 h2
  have := h i (by omega)
  rw [List.getD_eq_getElem?_getD, List.getD_eq_getElem?_getD, List.getElem?_eq_getElem h1, List.getElem?_eq_getElem h2] at this
  exact this
set_option maxRecDepth 100000 in
set_option maxHeartbeats 4000000 in
theorem treads_any (p : Plat) (v : Vol) (gen n : Nat) (key : ByteArray) (T said : List ByteArray) (g : Nat) (A A' As : Option Addr) (nS mS c c' ks cs : Nat) (q q' sd dr : Value) (s : Src) (w : World)
    (hg : Blk w g 46 (houseC (.slice A nS c) (.slice A' mS c') q q' s key sd dr)) (hP : PlatAt w w.heap.size A nS A' mS p) (hS : nS ≤ 1000) (hO : loadP p = (v, gen, 0)) (hv : Whole v n) (hT : Tells key v T)
    (hL : SlR encS 1 w w.heap.size As ks said) (hn : ks = n) (hE : Env w) :
    Calls Tryz.prog 24 #[.pointer (some ⟨g, 0, none⟩), .slice As ks cs] w fun e w' => e = .returned (.bool (decide (T = said))) ∧ Below w.heap.size w w' := by
  subst hn
  have HP := hP.pre
  have hvb := (volB_iff v).1 hv.vol
  obtain ⟨hm, hn1, hn64⟩ := count_may hvb.1
  rw [hv.len] at hn1 hn64
  have HLO := Lib.hid (fun W (hW : Below w.heap.size w W) => load_any p A A' nS mS c c' W (HP.step hW) (by omega) (hE.below hW))
  rw [hO] at HLO
  dsimp only at HLO
  have HW := Lib.hid hv
  have HT := Lib.hid hT
  have HG := Lib.hid hg
  have HEN := Lib.hid hE
  have hsl := hL.1
  have HSL := Lib.hid hsl
  have HTL := Lib.hid (hT.1.trans hv.len)
  rcases hL.2 with h0 | ⟨b, off, rfl, hb, hC⟩
  · omega
  have HC := Lib.hid hC
  have HVS : Hid ((∀ s ∈ v.blocks, s.size ≤ 140737488351232) ∧ v.root.size ≤ 140737488351232 ∧ v.blocks.length = ks) := Lib.hid ⟨fun s hs => by have := hvb.2.2 s hs; omega, by have := hvb.2.1; omega, hv.len⟩
  have p0 := hg.cells 0 _ rfl
  have p1 := hg.cells 1 _ rfl
  simp only [houseC, List.getElem_toArray, List.getElem_cons_zero, List.getElem_cons_succ] at p0 p1
  have HBB := Lib.hid hb
  clear hP hO hv hT hL hE hC hsl hg hvb hm hb HP
  go_enter Tryz.func24, Tryz.ntmps24
  go_wp2_with fail
  refine (HLO.out _ (Below.refl _ _)).mono ?_
  rintro e w1 ⟨v1, rfl, ⟨A1, c1, rfl, hr1⟩, hb1⟩
  have HG1 := Lib.hid ((HG.out.below hb1 HG.out.lt).alloc (.cells #[.slice A1 v.blocks.length c1, .string v.root] 36))
  have HV1 : Hid (Blk (w1.alloc (.cells #[.slice A1 v.blocks.length c1, .string v.root] 36)) w1.heap.size 36 #[.slice A1 v.blocks.length c1, .string v.root]) := Lib.hid (Blk.new _ _ _)
  have HB1 : Hid (Below w.heap.size w (w1.alloc (.cells #[.slice A1 v.blocks.length c1, .string v.root] 36))) := Lib.hid (hb1.alloc hb1.size _)
  have HR1 : Hid (SlR encS 1 (w1.alloc (.cells #[.slice A1 v.blocks.length c1, .string v.root] 36)) w1.heap.size A1 v.blocks.length v.blocks) := Lib.hid ((srow_slr hr1.out rfl).below ((Below.refl w1.heap.size w1).alloc (Nat.le_refl _) _))
  have hx1 : w1.heap.size < (w1.alloc (.cells #[.slice A1 v.blocks.length c1, .string v.root] 36)).heap.size := by simp
  rw [HVS.out.2.2] at HG1 HV1 HB1 HR1 hx1 ⊢
  clear hb1 hr1 p0 p1
  go_upto_region 2 with fail
  generalize w1.alloc (.cells #[.slice A1 ks c1, .string v.root] 36) = w2 at *
  obtain ⟨x1, hx1e⟩ : ∃ x1, w1.heap.size = x1 := ⟨_, rfl⟩
  rw [hx1e] at HV1 HR1 hx1 ⊢
  have HX1 := Lib.hid hx1
  clear hx1e hx1
  go_wp2_with fail
  go_loopw [8] (fun iv wr => ∃ i : Nat, i ≤ ks ∧ iv = .int .i64 i ∧ Hid (∀ j, j < i → T.getD j ByteArray.empty = said.getD j ByteArray.empty) ∧ Hid (Below w2.heap.size w2 wr)) (fun iv _ => ks - (intOf iv).toNat)
  case atStart => exact ⟨0, by omega, rfl, Lib.hid (fun j hj => by omega), Lib.hid (Below.refl _ _)⟩
  case round =>
    obtain ⟨i, hi, rfl, HU, HB⟩ := hrel
    by_cases hlt : i < ks
    · have HGr := Lib.hid (HG1.out.below HB.out HG1.out.lt)
      have HVr := Lib.hid (HV1.out.below HB.out HV1.out.lt)
      have HBr := Lib.hid (HB1.out.trans (HB.out.mono HB1.out.size))
      have hrd := reads_told (v := v) HW.out HT.out hlt
      have HRD := Lib.hid (fun W (hW : Below wr.heap.size wr W) => vread_any v key (i : Int) A1 ks c1 W (((HR1.out.below (HB.out.mono (Nat.le_of_lt HX1.out))).below (hW.mono (Nat.le_trans (Nat.le_of_lt HX1.out) HB.out.size))).more (Nat.le_trans (Nat.le_of_lt HX1.out) (Nat.le_trans HB.out.size hW.size))) HVS.out.1 HVS.out.2.1 (HEN.out.below (HBr.out.trans (hW.mono HBr.out.size))))
      rw [hrd] at HRD
      dsimp only at HRD
      obtain ⟨t, ht⟩ : ∃ t, T.getD i ByteArray.empty = t := ⟨_, rfl⟩
      rw [ht] at HRD
      have hsi : said[i]? = some (said.getD i ByteArray.empty) := by
        rw [List.getD_eq_getElem?_getD, List.getElem?_eq_getElem (by rw [HSL.out]; exact hlt)]; rfl
      obtain ⟨u, hu⟩ : ∃ u, said.getD i ByteArray.empty = u := ⟨_, rfl⟩
      rw [hu] at hsi
      have HTU := Lib.hid (And.intro ht hu)
      have cs0 := HC.out.str hsi
      have cu : wr.cell? ⟨b, off + i, none⟩ = some (.string u) := (HBr.out.cell (p := ⟨b, off + i, none⟩) HBB.out).trans cs0
      have k0 := HGr.out.cells 7 _ rfl
      have v0 := HVr.out.cells 0 _ rfl
      have v1 := HVr.out.cells 1 _ rfl
      simp only [houseC, List.getElem_toArray, List.getElem_cons_zero, List.getElem_cons_succ] at k0 v0 v1
      have hbr : b < wr.heap.size := Nat.lt_of_lt_of_le HBB.out HBr.out.size
      have i0 : (0 : Int) ≤ (i : Int) := by omega
      have i1 : (i : Int) < (ks : Int) := by omega
      clear hrd ht hu hsi cs0
      go_upto_region 5 with fail
      refine wp_region_T [10, 11] (fun W => Below wr.heap.size wr W ∧ W.cell? ⟨x1, 0, none⟩ = some (.slice A1 ks c1) ∧ W.cell? ⟨x1, 1, none⟩ = some (.string v.root) ∧ W.cell? ⟨g, 7, none⟩ = some (.string key)) (by kernel_rfl) ?_
      have hHeld : (fun W => Below wr.heap.size wr W ∧ W.cell? ⟨x1, 0, none⟩ = some (.slice A1 ks c1) ∧ W.cell? ⟨x1, 1, none⟩ = some (.string v.root) ∧ W.cell? ⟨g, 7, none⟩ = some (.string key)) _ := ⟨(Below.refl _ _).drew, v0, v1, k0⟩
      refine wT (i := 0) (v := ?tv1) rfl (Or.inl ⟨by rfl, ?th1⟩) hHeld ?tr1
      case th1 => (intro w hSw; (try dsimp only at hSw); go_simp; try with_reducible rfl)
      try simp only [Act.put, lst]
      refine wT (i := 1) (v := ?tv2) rfl (Or.inl ⟨by rfl, ?th2⟩) hHeld ?tr2
      case th2 => (intro w hSw; (try dsimp only at hSw); go_simp; try with_reducible rfl)
      try simp only [Act.put, lst]
      refine wT (i := 2) (v := ?tv3) rfl (Or.inl ⟨by rfl, ?th3⟩) hHeld ?tr3
      case th3 => (intro w hSw; (try dsimp only at hSw); go_simp; try with_reducible rfl)
      try simp only [Act.put, lst]
      refine wT (i := 3) (v := ?tv4) rfl (Or.inl ⟨by rfl, ?th4⟩) hHeld ?tr4
      case th4 => (intro w hSw; (try dsimp only at hSw); go_simp; try with_reducible rfl)
      try simp only [Act.put, lst]
      refine wT (i := 4) (v := ?tv5) rfl (Or.inl ⟨by rfl, ?th5⟩) hHeld ?tr5
      case th5 => (intro w hSw; (try dsimp only at hSw); go_simp; try with_reducible rfl)
      try simp only [Act.put, lst]
      refine wT (i := 5) (v := ?tv6) rfl (Or.inl ⟨by rfl, ?th6⟩) hHeld ?tr6
      case th6 => (intro w hSw; (try dsimp only at hSw); go_simp; try with_reducible rfl)
      try simp only [Act.put, lst]
      refine wpAnyT_ready (rs := [6]) (by kernel_rfl) (by simp) ?_
      refine AllReadyT.cons rfl (fun K hK => ?_) AllReadyT.nil
      rw [if_pos (by rfl)]
      simp only [lst]
      have hPrev := Lib.hid hHeld
      clear hHeld
      go_simp
      refine (HRD.out _ hPrev.out.1).mono ?_
      rintro e' wa ⟨rfl, hba⟩
      go_simp
      refine hK.out _ _ (⟨hPrev.out.1.trans (hba.mono hPrev.out.1.size), kpc hba hPrev.out.2.1, kpc hba hPrev.out.2.2.1, kpc hba hPrev.out.2.2.2⟩) (fun hHeld => ?_)
      clear hK K hPrev
      try simp only [Act.put, lst]
      refine wP (i := 7) (v := ?tv7) rfl (Or.inl ⟨by rfl, ?th7⟩) hHeld ?tr7
      case th7 => (intro w hSw; clear hSw; go_simp; try with_reducible rfl)
      try simp only [Act.put, lst]
      refine wP (i := 8) (v := ?tv8) rfl (Or.inl ⟨by rfl, ?th8⟩) hHeld ?tr8
      case th8 => (intro w hSw; clear hSw; go_simp; try with_reducible rfl)
      try simp only [Act.put, lst]
      refine wP (i := 9) (v := ?tv9) rfl (Or.inl ⟨by rfl, ?th9⟩) hHeld ?tr9
      case th9 => (intro w hSw; clear hSw; go_simp; try with_reducible rfl)
      try simp only [Act.put, lst]
      refine wpAnyT_ready (rs := [10]) (by kernel_rfl) (by simp) ?_
      refine AllReadyT.late rfl (by kernel_rfl) (fun K hK => ?_) AllReadyT.nil
      rw [if_pos (by rfl)]
      simp only [lst]
      go_simp
      refine hK.out _ _ ?_
      clear hK K
      try simp only [Act.put, lst]
      refine wpAnyT_ready (rs := [11]) (by kernel_rfl) (by simp) ?_
      refine AllReadyT.late rfl (by kernel_rfl) (fun K hK => ?_) AllReadyT.nil
      rw [if_pos (by rfl)]
      simp only [lst]
      go_simp
      refine hK.out _ _ ?_
      clear hK K
      try simp only [Act.put, lst]
      refine wpAnyT_done (by kernel_rfl) ?_
      have cu2 : wa.cell? ⟨b, off + i, none⟩ = some (.string u) := (hHeld.1.cell (p := ⟨b, off + i, none⟩) hbr).trans cu
      have hb2 : b < wa.heap.size := Nat.lt_of_lt_of_le hbr hHeld.1.size
      have HB2 := Lib.hid (HB.out.trans (hHeld.1.mono HB.out.size))
      have HBW := Lib.hid (HBr.out.trans (hHeld.1.mono HBr.out.size))
      clear cu hbr hHeld k0 v0 v1
      by_cases htu : t = u
      · have hne := (txt_eq htu).1
        have HTE := Lib.hid htu
        clear htu
        go_wp2_with fail
        go_roundw
        case rel =>
          refine ⟨i + 1, by omega, by go_num, Lib.hid (fun j hj => ?_), HB2⟩
          by_cases hji : j = i
          · subst hji; rw [HTU.out.1, HTU.out.2]; exact HTE.out
          · exact HU.out j (by omega)
        case measure => simp [intOf]; omega
      · have hne := (txt_ne htu).1
        have HTE := Lib.hid htu
        clear htu
        go_wp2_with fail
        go_ret
        refine ⟨ret_bool ?_, HBW.out⟩
        refine (decide_eq_false fun e => HTE.out ?_).symm
        rw [← HTU.out.1, ← HTU.out.2, e]
    · obtain rfl : i = ks := by omega
      have i1 : ¬ (i : Int) < (i : Int) := by omega
      go_wp2_with fail
      go_ret
      refine ⟨ret_bool ?_, HB1.out.trans (HB.out.mono HB1.out.size)⟩
      exact (decide_eq_true (ext_upto HTL.out HSL.out HU.out)).symm
end Go.Proofs.YtpkomloblhbkiaaGreatDoor
