/- platter.settle with Sync's fates. -/
import Derived.Test.YtefodifmfjpnlaaDoorPlatD
import Derived.Deep.RegionWith
set_option linter.unusedVariables false
namespace Go.Proofs.YtefodifmfjpnlaaDoor
open Go.RowKit

set_option maxRecDepth 100000 in
set_option maxHeartbeats 2000000 in
theorem settle_sync_bad (p : Plat) (A A' : Option Addr) (n m c d : Nat)  (w : World) (HP : Hid (∀ W, Below w.heap.size w W → PlatAt W W.heap.size A n A' m p)) (hc : checkP p = false) :
    Calls Tryd.prog 32 #[.agg #[.slice A n c, .slice A' m d], .func (.func 56) #[] #[]] w fun e w' => ∃ v, e = .returned (.tuple #[v, .int .i64 1]) ∧ PlatOut w' w.heap.size v noPlat ∧ Below w.heap.size w w' := by
  go_enter Tryd.func32, Tryd.ntmps32
  go_wp2_with fail
  refine (checkP_any p A A' n m c d _ (HP.out _ (by go_grown))).mono ?_
  rintro e w1 ⟨rfl, hb1⟩
  rw [hc]
  have hB1 : Below w.heap.size w w1 := Below.trans (by go_grown) (hb1.mono (by simp; omega))
  have hr2 := (Blk.new_at (g := w.heap.size + 1) (by simp) _ _).below hb1 (by simp)
  have s0 := hr2.cells 0 _ rfl
  have s1 := hr2.cells 1 _ rfl
  have fs := hr2.frozen
  simp only [List.getElem_toArray, List.getElem_cons_zero, List.getElem_cons_succ] at s0 s1
  clear hr2 hb1
  go_wp2_with (with_reducible refine end_at ?_)
  refine end_ret (v := .tuple #[.agg #[.slice none 0 0, .slice none 0 0], .int .i64 1]) (by simp [results, Tryd.results32, go_sem, s0, s1]; try rfl) rfl ⟨_, rfl, ⟨none, 0, none, 0, rfl, World.ownsRow_nil _ _ _ _, World.ownsRow_nil _ _ _ _⟩, by go_grown⟩

set_option maxRecDepth 100000 in
set_option maxHeartbeats 2000000 in
theorem settle_sync_ok (p : Plat) (f : Nat → Int) (A A' : Option Addr) (n m c d : Nat)  (w : World) (HP : Hid (∀ W, Below w.heap.size w W → PlatAt W W.heap.size A n A' m p)) (hc : checkP p = true) (hm : p.cache.length = m) (hm100 : m ≤ 100) (hn200 : n ≤ 200)
    (HK : Hid (∀ k, k ≤ m → (settleTo p f k).sectors.length = p.sectors.length ∧ (∀ s ∈ (settleTo p f k).sectors, s.size ≤ 128) ∧ (settleTo p f k).cache = p.cache))
    (HX : Hid (∀ x ∈ p.cache, putB p.sectors.length x = true)) (HFb : Hid (∀ k, f k ≤ 9223372036854775807))
    (HF : Hid (∀ (W : World) (k : Nat), Below w.heap.size w W → Calls Tryd.prog 56 #[.int .i64 k] W fun e w' => e = .returned (.int .i64 (f k)) ∧ W = w')) :
    Calls Tryd.prog 32 #[.agg #[.slice A n c, .slice A' m d], .func (.func 56) #[] #[]] w fun e w' => ∃ v, e = .returned (.tuple #[v, .int .i64 0]) ∧ PlatOut w' w.heap.size v ⟨(settleTo p f m).sectors, []⟩ ∧ Below w.heap.size w w' := by
  have HM := Lib.hid hm
  clear hm
  go_enter Tryd.func32, Tryd.ntmps32
  go_wp2_with fail
  refine (checkP_any p A A' n m c d _ (HP.out _ (by go_grown))).mono ?_
  rintro e w1 ⟨rfl, hb1⟩
  rw [hc]
  have hB1 : Below w.heap.size w w1 := Below.trans (by go_grown) (hb1.mono (by simp; omega))
  have hz1 := hb1.size
  simp only [World.size_alloc] at hz1
  have hr1 := ((Blk.new w _ _).alloc _).below hb1 (by simp; omega)
  have q0 := hr1.cells 0 _ rfl
  have q1 := hr1.cells 1 _ rfl
  simp only [List.getElem_toArray, List.getElem_cons_zero, List.getElem_cons_succ] at q0 q1
  go_wp2_with fail
  refine (dcopied_any p A A' n m c d w1 (HP.out _ hB1) (by omega) (by omega)).mono ?_
  rintro e w2 ⟨g, rfl, hD2, hb2⟩
  have hr2 := hr1.below hb2 hr1.lt
  have hs2 := ((Blk.new_at (g := w.heap.size + 1) (by simp) _ _).below hb1 (by simp)).below hb2 (by omega)
  have hB2 := hB1.trans (hb2.mono (by omega))
  have hz2 := hb2.size
  clear q0 q1
  have q1 := hr2.cells 1 _ rfl
  simp only [List.getElem_toArray, List.getElem_cons_zero, List.getElem_cons_succ] at q1
  have HB0 := Lib.hid (And.intro hB2 (And.intro hr2 hs2))
  clear hr1 hb1 hb2 hB1 hr2 hs2 hB2
  go_wp2_with fail
  go_loopw [21] (fun i wr => ∃ k : Nat, k ≤ m ∧ i = .int .i64 k ∧ Hid (Disk wr w1.heap.size g (settleTo p f k)) ∧ Hid (Below w1.heap.size w2 wr)) (fun i _ => m - (intOf i).toNat)
  case atStart => exact ⟨0, Nat.zero_le _, rfl, hD2, Below.refl _ _⟩
  case round =>
    obtain ⟨k, hk, rfl, HD, HB⟩ := hrel
    have hBr : Below w.heap.size w wr := HB0.out.1.trans (HB.out.mono (by omega))
    have hzr := HB.out.size
    by_cases hlt : k < m
    · obtain ⟨x, hx⟩ : ∃ x, p.cache[k]? = some x := ⟨p.cache[k]'(by rw [HM.out]; exact hlt), List.getElem?_eq_getElem (by rw [HM.out]; exact hlt)⟩
      have hxg : p.cache.getD k noPut = x := by simp [List.getD, hx]
      have hxp := HX.out x (List.mem_of_getElem? hx)
      obtain ⟨hl, hsz, hca⟩ := HK.out k (by omega)
      rw [← hl] at hxp
      have hst : settleTo p f (k + 1) = fallF (settleTo p f k) x (f k) := by rw [settleTo, hxg]
      rcases (HP.out wr hBr).2.2 with h0 | ⟨b, off, rfl, hb, hC⟩
      · omega
      obtain ⟨c0, c1⟩ := hC.put hx
      have HT := Lib.hid (And.intro hxp (And.intro hsz hst))
      have HC := Lib.hid hC
      have hD1 : Hid (Disk (wr.alloc (.cells #[.int .i64 x.pos, .string x.text] 52)).drew w1.heap.size g (settleTo p f k)) := by
        obtain ⟨a1, a2, a3, a4, e1, e2, e3, e4⟩ := HD.out
        exact ⟨a1, a2, a3, a4, e1.alloc _, e2.alloc _, e3.alloc _, e4⟩
      clear hx hxg hxp hl hsz hca hst hC
      go_wp2_with fail
      go_region_with (first
        | (go_at_call 56; refine (HF.out _ k (by go_grown)).mono ?_; rintro e w' ⟨rfl, rfl⟩)
        | (go_at_call 48; refine (fall_any (settleTo p f k) x (f k) w1.heap.size g _ hD1.out (by simp; omega) HT.out.1 (fun s hs => by have := HT.out.2.1 s hs; omega) (HFb.out k)).mono ?_; rintro e w5 ⟨rfl, hD5, hb5⟩))
      all_goals
        go_wp2_with fail
        go_roundw
        case rel => exact ⟨k + 1, by omega, by go_num, by rw [HT.out.2.2]; exact hD5, HB.out.trans (Below.trans (by go_grown) hb5)⟩
        case measure => simp [intOf]; omega
    · obtain rfl : k = m := by omega
      obtain ⟨a1, a2, a3, a4, hk, ho1, ho2, hg⟩ := HD.out
      have g1 := hk.cells 1 _ rfl
      have gf := hk.frozen
      have HK2 := Lib.hid (And.intro hk (And.intro ho1 (own_blk_ne ho1 hk (by decide))))
      have hs3 := HB0.out.2.2.below (HB.out.mono (show w.heap.size + 1 + 1 ≤ w1.heap.size by omega)) (by omega)
      clear hk ho1 ho2
      go_wp2_with fail
      refine (plain_any ⟨(settleTo p f k).sectors, []⟩ w1.heap.size g _ ⟨a1, a2, none, 0, by simpa using HK2.out.1.set_ 1 _, own_far HK2.out.2.1 HK2.out.2.2 _ _, World.ownsRow_nil _ _ _ _, hg⟩ (by simp; omega)).mono ?_
      rintro e w6 ⟨v, rfl, ⟨A1, c1, A2, c2, rfl, hown1, hown2⟩, hb6⟩
      have hne : w.heap.size + 1 ≠ g := by omega
      have hr := (hs3.far (p := ⟨g, 1, none⟩) hne (.slice none 0 0)).below hb6 (by simp; omega)
      have hB6 : Below w.heap.size w w6 := Below.trans (by go_grown) (hb6.mono (by simp; omega))
      have s0 := hr.cells 0 _ rfl
      have s1 := hr.cells 1 _ rfl
      have fs := hr.frozen
      simp only [List.getElem_toArray, List.getElem_cons_zero, List.getElem_cons_succ] at s0 s1
      have HO := Lib.hid (And.intro hown1 hown2)
      clear hr hs3 hb6 hown1 hown2 g1 gf q1
      go_wp2_with (with_reducible refine end_at ?_)
      refine end_ret (v := .tuple #[.agg #[.slice A1 (settleTo p f k).sectors.length c1, .slice A2 0 c2], .int .i64 0]) (by simp [results, Tryd.results32, go_sem, s0, s1]; try rfl) rfl ⟨_, rfl, ⟨A1, c1, A2, c2, rfl, own_base (base := w1.heap.size) ?_ (by omega), own_base (base := w1.heap.size) ?_ (by omega)⟩, by go_grown⟩
      · have h1 := HO.out.1
        repeat' (first | (with_reducible exact h1) | (with_reducible refine ownsRow_setCell_below ?_ (by first | (simp; done) | (simp; omega)) _))
      · have h1 := HO.out.2
        repeat' (first | (with_reducible exact h1) | (with_reducible refine ownsRow_setCell_below ?_ (by first | (simp; done) | (simp; omega)) _))
end Go.Proofs.YtefodifmfjpnlaaDoor
