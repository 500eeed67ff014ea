/- platter.settle with Crash's fates. -/
import Derived.Test.YtpkomloblhbkiaaGreatDoorPlatA
import Derived.RangeFuncNested
import Derived.RangeFuncBound
import Derived.RangeFuncCalls
import Derived.RangeFuncLeaves
import Derived.Shelf.Abstract
import Derived.Shelf.RegionOpen
import Derived.OwnWalkIn
import Derived.TacticsInMore
import Derived.LoopNIn
import Derived.LoopIn
import Derived.Deep.RegionWith
set_option linter.unusedVariables false
/- platter: what is done to a disk that is worked on: wait, lay, begin, fall, plain. -/
namespace Go.Proofs.YtpkomloblhbkiaaGreatDoor
open Go.RowKit
theorem own_own_ne {w : World} {b b' e e' s s' n n' : Nat} {v v' : Value} {xs xs' : List Value} (h : w.ownsRow b e s v n xs) (h' : w.ownsRow b' e' s' v' n' xs') (hne : e ≠ e') : ∀ g, v.ownBlock = some g → v'.ownBlock ≠ some g := by
  intro g hg hg'
  rcases h.2 with ⟨rfl, _⟩ | ⟨g1, cap, cur, rfl, _, hh, _⟩
  · simp [Value.ownBlock] at hg
  · rcases h'.2 with ⟨rfl, _⟩ | ⟨g2, cap2, cur2, rfl, _, hh2, _⟩
    · simp [Value.ownBlock] at hg'
    · simp [Value.ownBlock] at hg hg'
      subst hg; subst hg'
      rw [hh] at hh2
      injection hh2 with hh2
      injection hh2 with _ ht
      exact hne ht
set_option maxRecDepth 100000 in
set_option maxHeartbeats 400000 in
theorem wait_any (p : Plat) (i : Int) (s : ByteArray) (B g : Nat) (w : World) (hD : Disk w B g p) (hB : B ≤ w.heap.size) (hn : p.cache.length ≤ 1000) :
    Calls Tryz.prog 112 #[.pointer (some ⟨g, 0, none⟩), .int .i64 i, .string s] w fun e w' =>
      e = .returned (.tuple #[]) ∧ Disk w' B g { p with cache := p.cache ++ [⟨i, s⟩] } ∧ Below B w w' := by
  obtain ⟨i1, hj0, hy0, hy1, hy2⟩ := info_parts put_info
  obtain ⟨L, M⟩ := p
  obtain ⟨A, c, A', c', hk, ho1, ho2, hBg⟩ := hD
  simp only at hk ho1 ho2 hn ⊢
  have k1 := hk.cells 1 _ rfl
  have f1 := hk.frozen 1
  have hlt := hk.lt
  have hne := own_blk_ne ho2 hk (by decide)
  have hne1 := own_blk_ne ho1 hk (by decide)
  have hoo := own_own_ne ho1 ho2 (by decide)
  have HO := Lib.hid (And.intro ho1 (And.intro ho2 (And.intro hoo hne1)))
  clear ho1 ho2 hoo hne1
  go_enter Tryz.func112, Tryz.ntmps112
  go_wp2_with (at_builtin; refine wpList_append_any _ rfl (.tmp 10) (.tmp 14) _ rfl B _ i1 _ 2 24 Tryz.underlying40 hj0 hy0 hy1 hy2 rfl (by omega) (.slice A' M.length c') M.length (flat encP M) rfl (HO.out.2.1.alloc _) (w.heap.size + 1) (some ⟨w.heap.size, 0, none⟩) 1 1 [.int .i64 i, .string s] rfl (Reads.new_at (by simp) 159 #[.int .i64 i, .string s] rfl) (one_flatP [⟨i, s⟩]) (by simp only [maxLen]; omega) (by omega) (by simp; omega) ?_; intro v1 w1 hown1 hg1 hat1; obtain ⟨A1, c1, rfl, _, _, _⟩ := own_form hown1; have hk1 := (hk.alloc _).grown hg1 (fun h => hne h.symm); have q1 := hk1.cells 1 _ rfl; have r1 := hk1.frozen 1; have hb1 : Below B w w1 := Below.grown (by go_grown) hg1 (by simp; omega) (fun k h => (HO.out.2.1.lt k h).1))
  go_end0
  refine ⟨rfl, ⟨A, c, A1, c1, ?_, ?_, ?_, hBg⟩, hb1.setCell hBg _⟩
  · simpa using hk1.set_ 1 _
  · refine own_far ((HO.out.1.alloc _).kept hg1 ?_) HO.out.2.2.2 _ _
    cases hb : (Value.slice A L.length c).ownBlock with
    | none => exact .inl rfl
    | some b => exact .inr (fun e => HO.out.2.2.1 b hb e.symm)
  · simp only [List.length_append, List.length_singleton, flat_snoc]
    exact own_far hown1 (own_blk_ne hown1 hk1 (by decide)) _ _
theorem flat_set (L : List ByteArray) (i : Nat) (s : ByteArray) : (flat encS L).set i (.string s) = flat encS (L.set i s) := by
  induction L generalizing i with
  | nil => simp [flat]
  | cons x L ih =>
    cases i with
    | zero => simp [flat, encS]
    | succ i => have := ih i; simp only [flat, encS, List.flatMap_cons, List.cons_append, List.nil_append, List.set_cons_succ] at *; rw [this]
/-- what a disk is known by in a walk -/
theorem Disk.open_ {w : World} {B g : Nat} {p : Plat} (h : Disk w B g p) {i : Nat} (hi : i < p.sectors.length) : ∃ b c A' c',
    Blk w g 136 #[.slice (some ⟨b, 0, none⟩) p.sectors.length c, .slice A' p.cache.length c'] ∧
    (∀ old, p.sectors[i]? = some old → w.cell? ⟨b, i, none⟩ = some (.string old)) ∧ w.frozen? ⟨b, i, none⟩ = false ∧ B ≤ b ∧ B ≤ g ∧
    (∀ s : ByteArray, Disk (w.setCell ⟨b, i, none⟩ (.string s)) B g { p with sectors := p.sectors.set i s }) := by
  obtain ⟨A, c, A', c', hk, ho1, ho2, hBg⟩ := h
  obtain ⟨A1, c1, hv, _, _, h0⟩ := own_form ho1
  obtain ⟨rfl, rfl⟩ : A = A1 ∧ c = c1 := by injection hv with h1 _ h2; exact ⟨h1, h2⟩
  obtain ⟨b, rfl, hbB, hbw⟩ : ∃ b, A = some ⟨b, 0, none⟩ ∧ B ≤ b ∧ b < w.heap.size := by
    rcases h0 with h0 | h0
    · omega
    · exact h0
  refine ⟨b, c, A', c', hk, fun old ho => ?_, ho1.frozenAt i, hbB, hBg, fun s => ⟨some ⟨b, 0, none⟩, c, A', c', ?_, ?_, ?_, hBg⟩⟩
  · rw [ho1.cellAt i (by omega)]
    have := flat_get encS_len p.sectors i old ho 0 _ rfl
    simpa using this
  · have : g ≠ b := fun e => by subst e; exact own_blk_ne ho1 hk (by decide) rfl
    simpa using hk.far (p := ⟨b, i, none⟩) this (.string s)
  · have := (ho1.stored i (.string s)).1
    rw [flat_set] at this
    simpa using this
  · exact own_far ho2 (own_own_ne ho1 ho2 (by decide) b rfl) _ _
set_option maxRecDepth 100000 in
set_option maxHeartbeats 400000 in
theorem lay_any (p : Plat) (i : Nat) (s : ByteArray) (B g : Nat) (w : World) (hD : Disk w B g p) (hi : i < p.sectors.length) :
    Calls Tryz.prog 28 #[.pointer (some ⟨g, 0, none⟩), .int .i64 i, .string s] w fun e w' =>
      e = .returned (.tuple #[]) ∧ Disk w' B g { p with sectors := p.sectors.set i s } ∧ Below B w w' := by
  obtain ⟨b, c, A', c', hk, hold, hf, hBb, hBg, hset⟩ := hD.open_ hi
  have k0 := hk.cells 0 _ rfl
  have c0 := hold _ (List.getElem?_eq_getElem hi)
  have HS := Lib.hid (hset s)
  clear hold hset hD hk
  go_enter Tryz.func28, Tryz.ntmps28
  go_wp2
  go_end0
  exact ⟨rfl, HS.out, by go_grown⟩
/-- the first n bytes of a text, and behind them what was there from place n on -/
def mixB (old s : ByteArray) (n : Nat) : ByteArray := if n < old.size then s.extract 0 (min n s.size) ++ old.extract n old.size else s.extract 0 (min n s.size)
set_option maxRecDepth 100000 in
set_option maxHeartbeats 400000 in
theorem begin_any (p : Plat) (i n : Nat) (s old : ByteArray) (B g : Nat) (w : World) (hD : Disk w B g p) (hi : i < p.sectors.length) (ho : p.sectors[i]? = some old) (hs : s.size ≤ 1000) (hos : old.size ≤ 1000) (hn : n ≤ 9223372036854775807) :
    Calls Tryz.prog 120 #[.pointer (some ⟨g, 0, none⟩), .int .i64 i, .string s, .int .i64 n] w fun e w' =>
      e = .returned (.tuple #[]) ∧ Disk w' B g { p with sectors := p.sectors.set i (mixB old s n) } ∧ Below B w w' := by
  obtain ⟨b, c, A', c', hk, hold, hf, hBb, hBg, hset⟩ := hD.open_ hi
  have k0 := hk.cells 0 _ rfl
  have c0 := hold _ ho
  have HS := Lib.hid (hset (mixB old s n))
  clear hold hset hD hk ho
  by_cases h1 : n ≤ s.size
  · by_cases h2 : n < old.size
    · have e1 : mixB old s n = s.extract 0 n ++ old.extract n old.size := by rw [mixB, if_pos h2, Nat.min_eq_left h1]
      rw [e1] at HS ⊢
      clear e1
      go_enter Tryz.func120, Tryz.ntmps120
      go_wp2
      go_end0
      exact ⟨rfl, HS.out, by go_grown⟩
    · have e1 : mixB old s n = s.extract 0 n := by rw [mixB, if_neg h2, Nat.min_eq_left h1]
      rw [e1] at HS ⊢
      clear e1
      go_enter Tryz.func120, Tryz.ntmps120
      go_wp2
      go_end0
      exact ⟨rfl, HS.out, by go_grown⟩
  · have e0 : s.extract 0 s.size = s := by simp
    by_cases h2 : n < old.size
    · have e1 : mixB old s n = s ++ old.extract n old.size := by rw [mixB, if_pos h2, Nat.min_eq_right (by omega), e0]
      rw [e1] at HS ⊢
      clear e1 e0
      go_enter Tryz.func120, Tryz.ntmps120
      go_wp2
      go_end0
      exact ⟨rfl, HS.out, by go_grown⟩
    · have e1 : mixB old s n = s := by rw [mixB, if_neg h2, Nat.min_eq_right (by omega), e0]
      rw [e1] at HS ⊢
      clear e1 e0
      go_enter Tryz.func120, Tryz.ntmps120
      go_wp2
      go_end0
      exact ⟨rfl, HS.out, by go_grown⟩
/-- what becomes of the text that waits, by its fate -/
def fallF (p : Plat) (x : PPut) (fate : Int) : Plat :=
  if fate ≤ 0 then p else if fate = 1 then { p with sectors := p.sectors.set x.pos.toNat x.text } else { p with sectors := p.sectors.set x.pos.toNat (mixB (p.sectors.getD x.pos.toNat ByteArray.empty) x.text (fate - 2).toNat) }
set_option maxRecDepth 100000 in
set_option maxHeartbeats 400000 in
theorem fall_any (p : Plat) (x : PPut) (fate : Int) (B g : Nat) (w : World) (hD : Disk w B g p) (hB : B ≤ w.heap.size) (hx : putB p.sectors.length x = true) (hs : ∀ s ∈ p.sectors, s.size ≤ 1000) (hn : fate ≤ 9223372036854775807) :
    Calls Tryz.prog 98 #[.pointer (some ⟨g, 0, none⟩), .agg #[.int .i64 x.pos, .string x.text], .int .i64 fate] w fun e w' =>
      e = .returned (.tuple #[]) ∧ Disk w' B g (fallF p x fate) ∧ Below B w w' := by
  obtain ⟨pos, text⟩ := x
  simp only [putB, longB, hasB, Bool.and_eq_true, decide_eq_true_eq, Bool.not_eq_true', decide_eq_false_iff_not] at hx
  obtain ⟨ht, h0, hlt⟩ := hx
  obtain ⟨i, rfl⟩ := Int.eq_ofNat_of_zero_le h0
  have hi : i < p.sectors.length := by omega
  obtain ⟨old, ho⟩ : ∃ x, p.sectors[i]? = some x := ⟨p.sectors[i], List.getElem?_eq_getElem hi⟩
  have hold := hs old (List.mem_of_getElem? ho)
  have hg : p.sectors.getD i ByteArray.empty = old := by simp [List.getD, ho]
  have HD : Hid (∀ W, Below w.heap.size w W → Disk W B g p) := by
    intro W hb
    obtain ⟨A, c, A', c', hk, ho1, ho2, hBg⟩ := hD
    exact ⟨A, c, A', c', hk.below hb hk.lt, own_below ho1 hb (Nat.le_refl _), own_below ho2 hb (Nat.le_refl _), hBg⟩
  have HW : Hid (∀ W W', Below w.heap.size w W → Below B W W' → Below B w W') := fun W W' h1 h2 => (h1.mono hB).trans h2
  by_cases f0 : fate ≤ 0
  · have e1 : fallF p ⟨i, text⟩ fate = p := by simp [fallF, f0]
    rw [e1]
    go_enter Tryz.func98, Tryz.ntmps98
    go_wp2
    go_end0
    exact ⟨rfl, HD.out _ (by go_grown), by go_grown⟩
  · by_cases f1 : fate = 1
    · have e1 : fallF p ⟨i, text⟩ fate = { p with sectors := p.sectors.set i text } := by simp [fallF, f1]
      rw [e1]
      subst f1
      clear hg e1
      go_enter Tryz.func98, Tryz.ntmps98
      go_wp2_with fail
      refine (lay_any p i text B g _ (HD.out _ (by go_grown)) hi).mono ?_
      rintro e w1 ⟨rfl, hD1, hb1⟩
      go_wp2_with fail
      go_end0
      exact ⟨rfl, hD1, HW.out _ _ (by go_grown) hb1⟩
    · have e1 : fallF p ⟨i, text⟩ fate = { p with sectors := p.sectors.set i (mixB old text (fate - 2).toNat) } := by simp [fallF, f0, f1, ho]
      rw [e1]
      obtain ⟨n, hfn⟩ := Int.eq_ofNat_of_zero_le (show 0 ≤ fate - 2 by omega)
      have HF := Lib.hid hfn
      have hf2 : 2 ≤ fate := by omega
      have t1 : (fate == 1) = false := by simpa using f1
      rw [hfn, Int.toNat_natCast]
      clear hg e1 hfn f1
      go_enter Tryz.func98, Tryz.ntmps98
      go_wp2_with fail
      rw [HF.out]
      refine (begin_any p i n text old B g _ (HD.out _ (by go_grown)) hi ho (by omega) hold (by have := HF.out; omega)).mono ?_
      rintro e w1 ⟨rfl, hD1, hb1⟩
      go_wp2_with fail
      go_end0
      exact ⟨rfl, hD1, HW.out _ _ (by go_grown) hb1⟩
/-- a value that is the platter p, its rows its own, from B on -/
def PlatOut (w' : World) (B : Nat) (v : Value) (p : Plat) : Prop := ∃ A c A' c', v = .agg #[.slice A p.sectors.length c, .slice A' p.cache.length c'] ∧
  w'.ownsRow B 9 1 (.slice A p.sectors.length c) p.sectors.length (flat encS p.sectors) ∧
  w'.ownsRow B 159 2 (.slice A' p.cache.length c') p.cache.length (flat encP p.cache)
set_option maxRecDepth 100000 in
set_option maxHeartbeats 400000 in
theorem plain_any (p : Plat) (B g : Nat) (w : World) (hD : Disk w B g p) (hB : B ≤ w.heap.size) :
    Calls Tryz.prog 64 #[.pointer (some ⟨g, 0, none⟩)] w fun e w' =>
      ∃ v, e = .returned v ∧ PlatOut w' B v p ∧ Below w.heap.size w w' := by
  obtain ⟨A, c, A', c', hk, ho1, ho2, hBg⟩ := hD
  have k0 := hk.cells 0 _ rfl
  have k1 := hk.cells 1 _ rfl
  have hlt := hk.lt
  have HO := Lib.hid (And.intro ho1 ho2)
  have HBL : Hid (∀ k, (Value.slice A p.sectors.length c).ownBlock = some k → k < w.heap.size) := fun k h => (ho1.lt k h).2
  have HBL2 : Hid (∀ k, (Value.slice A' p.cache.length c').ownBlock = some k → k < w.heap.size) := fun k h => (ho2.lt k h).2
  clear ho1 ho2 hk
  go_enter Tryz.func64, Tryz.ntmps64
  go_wp2_with fail
  go_region
  all_goals go_wp2_with (with_reducible refine end_at ?_)
  all_goals
    refine end_ret (v := .agg #[.slice A p.sectors.length c, .slice A' p.cache.length c']) (by simp [results, Tryz.results64, go_sem]; try rfl) rfl ⟨_, rfl, ⟨A, c, A', c', rfl, ?_, ?_⟩, by go_grown⟩
    · have h1 := HO.out.1
      have h2 := HBL.out
      repeat' (first | (with_reducible exact h1) | (with_reducible refine World.ownsRow.drew ?_) | (with_reducible refine World.ownsRow.alloc ?_ _) | (with_reducible refine own_far ?_ (fun e => by have := h2 _ e; omega) _ _))
    · have h1 := HO.out.2
      have h2 := HBL2.out
      repeat' (first | (with_reducible exact h1) | (with_reducible refine World.ownsRow.drew ?_) | (with_reducible refine World.ownsRow.alloc ?_ _) | (with_reducible refine own_far ?_ (fun e => by have := h2 _ e; omega) _ _))
end Go.Proofs.YtpkomloblhbkiaaGreatDoor
/- platter: what becomes of all texts that wait (plain); Crash's fates. -/
namespace Go.Proofs.YtpkomloblhbkiaaGreatDoor
open Go.RowKit
def noPlat : Plat := ⟨[], []⟩
def noPut : PPut := ⟨0, ByteArray.empty⟩
/-- the disk behind the first k texts that waited -/
def settleTo (p : Plat) (f : Nat → Int) : Nat → Plat
  | 0 => p
  | k + 1 => fallF (settleTo p f k) (p.cache.getD k noPut) (f k)
def settleF (p : Plat) (f : Nat → Int) : Plat × Int := if checkP p = true then (⟨(settleTo p f p.cache.length).sectors, []⟩, 0) else (noPlat, 1)
theorem size_mix (old s : ByteArray) (n : Nat) (h1 : old.size ≤ 128) (h2 : s.size ≤ 128) : (mixB old s n).size ≤ 128 := by
  unfold mixB
  split
  · simp only [ByteArray.size_append, ByteArray.size_extract]; omega
  · simp only [ByteArray.size_extract]; omega
theorem checkP_iff (p : Plat) : checkP p = true ↔ 1 ≤ p.sectors.length ∧ p.sectors.length ≤ 200 ∧ p.cache.length ≤ 100 ∧ (∀ s ∈ p.sectors, s.size ≤ 128) ∧ (∀ x ∈ p.cache, putB p.sectors.length x = true) := by
  simp only [checkP, Bool.and_eq_true, decide_eq_true_eq, List.all_eq_true, Bool.not_eq_true', List.any_eq_false]
  constructor
  · rintro ⟨a, b, c, d, e⟩
    exact ⟨a, b, c, fun s hs => by have := d s hs; simp [longB] at this; exact this, e⟩
  · rintro ⟨a, b, c, d, e⟩
    exact ⟨a, b, c, fun s hs => by have := d s hs; simp [longB]; exact this, e⟩
theorem fallF_keeps (p : Plat) (x : PPut) (fate : Int) (hs : ∀ s ∈ p.sectors, s.size ≤ 128) (hx : x.text.size ≤ 128) :
    (fallF p x fate).sectors.length = p.sectors.length ∧ (∀ s ∈ (fallF p x fate).sectors, s.size ≤ 128) ∧ (fallF p x fate).cache = p.cache := by
  unfold fallF
  split
  · exact ⟨rfl, hs, rfl⟩
  · split
    · refine ⟨by simp, fun s h => ?_, rfl⟩
      rcases List.mem_or_eq_of_mem_set h with h | rfl
      · exact hs s h
      · exact hx
    · refine ⟨by simp, fun s h => ?_, rfl⟩
      rcases List.mem_or_eq_of_mem_set h with h | rfl
      · exact hs s h
      · refine size_mix _ _ _ ?_ hx
        rw [List.getD_eq_getElem?_getD]
        cases h : p.sectors[x.pos.toNat]? with
        | none => simp
        | some y => exact hs y (List.mem_of_getElem? h)
theorem settleTo_keeps (p : Plat) (f : Nat → Int) (hc : checkP p = true) : ∀ k, k ≤ p.cache.length → (settleTo p f k).sectors.length = p.sectors.length ∧ (∀ s ∈ (settleTo p f k).sectors, s.size ≤ 128) ∧ (settleTo p f k).cache = p.cache := by
  obtain ⟨_, _, _, hs, hx⟩ := (checkP_iff p).1 hc
  intro k
  induction k with
  | zero => intro _; exact ⟨rfl, hs, rfl⟩
  | succ k ih =>
    intro hk
    obtain ⟨h1, h2, h3⟩ := ih (by omega)
    have hm : p.cache.getD k noPut ∈ p.cache := by
      rw [List.getD_eq_getElem?_getD, List.getElem?_eq_getElem (show k < p.cache.length by omega)]; exact List.getElem_mem _
    have hp := hx _ hm
    have ht : (p.cache.getD k noPut).text.size ≤ 128 := by
      simp [putB, longB] at hp; exact hp.1
    obtain ⟨g1, g2, g3⟩ := fallF_keeps (settleTo p f k) (p.cache.getD k noPut) (f k) h2 ht
    exact ⟨g1.trans h1, g2, g3.trans h3⟩
set_option maxRecDepth 100000 in
theorem sync1_any (i : Int) (w : World) : Calls Tryz.prog 113 #[.int .i64 i] w fun e w' => e = .returned (.int .i64 1) ∧ w = w' := by
  go_enter Tryz.func113, Tryz.ntmps113
  go_wp2
  go_ret
  exact ⟨rfl, rfl⟩
set_option maxRecDepth 100000 in
set_option maxHeartbeats 400000 in
theorem crash1_any (F : List Int) (k h : Nat) (A : Option Addr) (n c : Nat) (w : World) (hb : w.cell? ⟨h, 0, none⟩ = some (.slice A n c)) (hS : SlR encI 1 w w.heap.size A n F) (hn : n ≤ 140737488355328) :
    Calls Tryz.prog 56 #[.int .i64 k, .pointer (some ⟨h, 0, none⟩)] w fun e w' => e = .returned (.int .i64 (F.getD k 0)) ∧ w = w' := by
  obtain ⟨rfl, hA⟩ := hS
  by_cases hk : k < F.length
  · rcases hA with h0 | ⟨b, off, rfl, hb', hC⟩
    · omega
    · obtain ⟨x, hx⟩ : ∃ x, F[k]? = some x := ⟨F[k], List.getElem?_eq_getElem hk⟩
      have e1 : F.getD k 0 = x := by simp [List.getD, hx]
      rw [e1]
      have c0 := hC.int hx
      clear hC hx e1
      go_enter Tryz.func56, Tryz.ntmps56
      go_wp2
      go_ret
      exact ⟨rfl, rfl⟩
  · have e1 : F.getD k 0 = 0 := by rw [List.getD_eq_getElem?_getD, List.getElem?_eq_none (by omega)]; rfl
    rw [e1]
    clear e1
    go_enter Tryz.func56, Tryz.ntmps56
    go_wp2
    go_ret
    exact ⟨rfl, rfl⟩
end Go.Proofs.YtpkomloblhbkiaaGreatDoor
/- platter.backward: the texts that wait, from the last one on, for whatever loop body. -/
namespace Go.Proofs.YtpkomloblhbkiaaGreatDoor
open Go.RowKit Go.Shelf
attribute [local go_sem] Oper.semAt_some
def pv (x : PPut) : Value := .agg #[.int .i64 x.pos, .string x.text]
theorem backward_in (F : Fence) (n : Nat) (hf : F.fn 100) (hro : F.round = none) (A : Option Addr) (m c : Nat) (w : World) :
    CallsIn F n Tryz.prog 100 #[.slice A m c] w fun e w' => e = .returned (.func (.func 121) #[] #[.pointer (some ⟨w.heap.size, 0, none⟩)]) ∧ w.alloc (.cells #[.slice A m c] 40) = w' := by
  refine callsIn_of_wp Tryz.func100 rfl hf ?_ hro
  simp only [Tryz.ntmps100, List.size_toArray, List.length_cons, List.length_nil, Nat.reduceAdd, Nat.reduceSub, Array.replicate_succ, Array.replicate_zero, List.push_toArray, List.append_toArray, List.nil_append, List.cons_append]
  gi_wp2
  go_ret
  exact ⟨rfl, rfl⟩
theorem rev_take {L : List PPut} {j : Nat} {x : PPut} (h : L[j]? = some x) : L.reverse.take (L.length - (j + 1)) ++ [x] = L.reverse.take (L.length - j) := by
  obtain ⟨hj, he⟩ := List.getElem?_eq_some_iff.1 h
  have e : L.length - j = (L.length - (j + 1)) + 1 := by omega
  rw [e, List.take_succ_eq_append_getElem (by simp; omega)]
  congr 2
  rw [List.getElem_reverse]
  rw [← he]
  congr 1
  omega
set_option maxHeartbeats 400000 in
theorem backward1_in (F : Fence) (n : Nat) (hf : F.fn 121) (hro : F.round = none) (hn : 1 ≤ n) (l Bn n₀ : Nat) (L : List PPut) (A : Option Addr) (m c : Nat) (J Jx : List PPut → World → Prop)
    (hY : ∀ pre x W, J pre W → pre.length < L.length → YieldAt F (n - 1) Tryz.prog l #[pv x] W fun e W' =>
      (e = .returned (.bool true) ∧ J (pre ++ [x]) W' ∧ Below n₀ W W') ∨ (e = .returned (.bool false) ∧ Jx (pre ++ [x]) W'))
    (W : World) (hBn : W.cell? ⟨Bn, 0, none⟩ = some (.slice A m c)) (hlt : Bn < n₀) (hL : SlR encP 2 W n₀ A m L) (hm : m ≤ 1000) (h0 : J [] W) :
    CallsIn F n Tryz.prog 121 #[.func (.yield l) #[] #[], .pointer (some ⟨Bn, 0, none⟩)] W fun e W' => (∃ v, e = .returned v) ∧
      ((∃ ys, ys = L.reverse ∧ J ys W') ∨ (∃ pre, pre <+: L.reverse ∧ Jx pre W')) := by
  obtain ⟨rfl, hA⟩ := hL
  have HA := Lib.hid hA
  have HY := Lib.hid hY
  clear hA hY
  refine callsIn_of_wp Tryz.func121 rfl hf ?_ hro
  simp only [Tryz.ntmps121, List.size_toArray, List.length_cons, List.length_nil, Nat.reduceAdd, Nat.reduceSub, Array.replicate_succ, Array.replicate_zero, List.push_toArray, List.append_toArray, List.nil_append, List.cons_append]
  gi_wp2
  gi_loopw [3] (fun v wr => ∃ k : Nat, k ≤ L.length ∧ v = .int .i64 ((k : Int) - 1) ∧ Hid (J (L.reverse.take (L.length - k)) wr) ∧ Below n₀ W wr) (fun v _ => (intOf v + 1).toNat)
  case atStart => exact ⟨L.length, Nat.le_refl _, rfl, by simpa [Hid] using h0, Below.refl _ _⟩
  case round =>
    obtain ⟨k, hk, rfl, HJ, hB⟩ := hrel
    have hBr := (hB.cell (p := ⟨Bn, 0, none⟩) hlt).trans hBn
    cases k with
    | zero =>
      have e0 : ((0 : Nat) : Int) - 1 = -1 := rfl
      rw [e0]
      gi_wp2
      go_end0
      exact ⟨⟨_, rfl⟩, .inl ⟨_, rfl, by have := HJ.out; rwa [Nat.sub_zero, List.take_of_length_le (by simp)] at this⟩⟩
    | succ j =>
      have e0 : ((j + 1 : Nat) : Int) - 1 = (j : Int) := by omega
      rw [e0]
      have hj : j < L.length := by omega
      obtain ⟨x, hx⟩ : ∃ x, L[j]? = some x := ⟨L[j], List.getElem?_eq_getElem hj⟩
      rcases HA.out with h0' | ⟨b, off, rfl, hb, hC⟩
      · omega
      obtain ⟨c0, c1⟩ := (hC.below hB hb).put hx
      obtain ⟨fn, tmps, assign, body, hy, hR⟩ := HY.out _ x wr HJ.out (by simp; omega)
      have HX := Lib.hid (rev_take hx)
      have HR := Lib.hid hR
      clear hR hx hC e0
      simp only [pv] at hy
      gi_wp2
      refine HR.out.mono ?_
      rintro e W3 (⟨rfl, hJ3, hk3⟩ | ⟨rfl, hJx3⟩)
      · rw [HX.out] at hJ3
        have HJ3 := Lib.hid hJ3
        clear hJ3
        gi_wp2
        go_roundw
        case rel => exact ⟨j, by omega, rfl, HJ3, hB.trans hk3⟩
        case measure => simp [intOf]
      · rw [HX.out] at hJx3
        have HJ3 := Lib.hid hJx3
        clear hJx3
        gi_wp2
        refine bodyPost_ret (results_none rfl _ _ _) rfl ?_
        exact ⟨⟨_, rfl⟩, .inr ⟨_, List.take_prefix _ _, HJ3⟩⟩
end Go.Proofs.YtpkomloblhbkiaaGreatDoor
/- platter.settle with Sync's fates. -/
namespace Go.Proofs.YtpkomloblhbkiaaGreatDoor
open Go.RowKit
set_option maxRecDepth 100000 in
set_option maxHeartbeats 2000000 in
theorem settle_sync_bad (p : Plat) (A A' : Option Addr) (n m c d : Nat)  (w : World) (HP : Hid (∀ W, Below w.heap.size w W → PlatAt W W.heap.size A n A' m p)) (hc : checkP p = false) :
    Calls Tryz.prog 55 #[.agg #[.slice A n c, .slice A' m d], .func (.func 113) #[] #[]] w fun e w' => ∃ v, e = .returned (.tuple #[v, .int .i64 1]) ∧ PlatOut w' w.heap.size v noPlat ∧ Below w.heap.size w w' := by
  go_enter Tryz.func55, Tryz.ntmps55
  go_wp2_with fail
  refine (checkP_any p A A' n m c d _ (HP.out _ (by go_grown))).mono ?_
  rintro e w1 ⟨rfl, hb1⟩
  rw [hc]
  have hB1 : Below w.heap.size w w1 := Below.trans (by go_grown) (hb1.mono (by simp; omega))
  have hr2 := (Blk.new_at (g := w.heap.size + 1) (by simp) _ _).below hb1 (by simp)
  have s0 := hr2.cells 0 _ rfl
  have s1 := hr2.cells 1 _ rfl
  have fs := hr2.frozen
  simp only [List.getElem_toArray, List.getElem_cons_zero, List.getElem_cons_succ] at s0 s1
  clear hr2 hb1
  go_wp2_with (with_reducible refine end_at ?_)
  refine end_ret (v := .tuple #[.agg #[.slice none 0 0, .slice none 0 0], .int .i64 1]) (by simp [results, Tryz.results55, go_sem, s0, s1]; try rfl) rfl ⟨_, rfl, ⟨none, 0, none, 0, rfl, World.ownsRow_nil _ _ _ _, World.ownsRow_nil _ _ _ _⟩, by go_grown⟩
set_option maxRecDepth 100000 in
set_option maxHeartbeats 2000000 in
theorem settle_sync_ok (p : Plat) (f : Nat → Int) (A A' : Option Addr) (n m c d : Nat)  (w : World) (HP : Hid (∀ W, Below w.heap.size w W → PlatAt W W.heap.size A n A' m p)) (hc : checkP p = true) (hm : p.cache.length = m) (hm100 : m ≤ 100) (hn200 : n ≤ 200)
    (HK : Hid (∀ k, k ≤ m → (settleTo p f k).sectors.length = p.sectors.length ∧ (∀ s ∈ (settleTo p f k).sectors, s.size ≤ 128) ∧ (settleTo p f k).cache = p.cache))
    (HX : Hid (∀ x ∈ p.cache, putB p.sectors.length x = true)) (HFb : Hid (∀ k, f k ≤ 9223372036854775807))
    (HF : Hid (∀ (W : World) (k : Nat), Below w.heap.size w W → Calls Tryz.prog 113 #[.int .i64 k] W fun e w' => e = .returned (.int .i64 (f k)) ∧ W = w')) :
    Calls Tryz.prog 55 #[.agg #[.slice A n c, .slice A' m d], .func (.func 113) #[] #[]] w fun e w' => ∃ v, e = .returned (.tuple #[v, .int .i64 0]) ∧ PlatOut w' w.heap.size v ⟨(settleTo p f m).sectors, []⟩ ∧ Below w.heap.size w w' := by
  have HM := Lib.hid hm
  clear hm
  go_enter Tryz.func55, Tryz.ntmps55
  go_wp2_with fail
  refine (checkP_any p A A' n m c d _ (HP.out _ (by go_grown))).mono ?_
  rintro e w1 ⟨rfl, hb1⟩
  rw [hc]
  have hB1 : Below w.heap.size w w1 := Below.trans (by go_grown) (hb1.mono (by simp; omega))
  have hz1 := hb1.size
  simp only [World.size_alloc] at hz1
  have hr1 := ((Blk.new w _ _).alloc _).below hb1 (by simp; omega)
  have q0 := hr1.cells 0 _ rfl
  have q1 := hr1.cells 1 _ rfl
  simp only [List.getElem_toArray, List.getElem_cons_zero, List.getElem_cons_succ] at q0 q1
  go_wp2_with fail
  refine (dcopied_any p A A' n m c d w1 (HP.out _ hB1) (by omega) (by omega)).mono ?_
  rintro e w2 ⟨g, rfl, hD2, hb2⟩
  have hr2 := hr1.below hb2 hr1.lt
  have hs2 := ((Blk.new_at (g := w.heap.size + 1) (by simp) _ _).below hb1 (by simp)).below hb2 (by omega)
  have hB2 := hB1.trans (hb2.mono (by omega))
  have hz2 := hb2.size
  clear q0 q1
  have q1 := hr2.cells 1 _ rfl
  simp only [List.getElem_toArray, List.getElem_cons_zero, List.getElem_cons_succ] at q1
  have HB0 := Lib.hid (And.intro hB2 (And.intro hr2 hs2))
  clear hr1 hb1 hb2 hB1 hr2 hs2 hB2
  go_wp2_with fail
  go_loopw [21] (fun i wr => ∃ k : Nat, k ≤ m ∧ i = .int .i64 k ∧ Hid (Disk wr w1.heap.size g (settleTo p f k)) ∧ Hid (Below w1.heap.size w2 wr)) (fun i _ => m - (intOf i).toNat)
  case atStart => exact ⟨0, Nat.zero_le _, rfl, hD2, Below.refl _ _⟩
  case round =>
    obtain ⟨k, hk, rfl, HD, HB⟩ := hrel
    have hBr : Below w.heap.size w wr := HB0.out.1.trans (HB.out.mono (by omega))
    have hzr := HB.out.size
    by_cases hlt : k < m
    · obtain ⟨x, hx⟩ : ∃ x, p.cache[k]? = some x := ⟨p.cache[k]'(by rw [HM.out]; exact hlt), List.getElem?_eq_getElem (by rw [HM.out]; exact hlt)⟩
      have hxg : p.cache.getD k noPut = x := by simp [List.getD, hx]
      have hxp := HX.out x (List.mem_of_getElem? hx)
      obtain ⟨hl, hsz, hca⟩ := HK.out k (by omega)
      rw [← hl] at hxp
      have hst : settleTo p f (k + 1) = fallF (settleTo p f k) x (f k) := by rw [settleTo, hxg]
      rcases (HP.out wr hBr).2.2 with h0 | ⟨b, off, rfl, hb, hC⟩
      · omega
      obtain ⟨c0, c1⟩ := hC.put hx
      have HT := Lib.hid (And.intro hxp (And.intro hsz hst))
      have HC := Lib.hid hC
      have hD1 : Hid (Disk (wr.alloc (.cells #[.int .i64 x.pos, .string x.text] 159)).drew w1.heap.size g (settleTo p f k)) := by
        obtain ⟨a1, a2, a3, a4, e1, e2, e3, e4⟩ := HD.out
        exact ⟨a1, a2, a3, a4, e1.alloc _, e2.alloc _, e3.alloc _, e4⟩
      clear hx hxg hxp hl hsz hca hst hC
      go_wp2_with fail
      go_region_with (first
        | (go_at_call 113; refine (HF.out _ k (by go_grown)).mono ?_; rintro e w' ⟨rfl, rfl⟩)
        | (go_at_call 98; refine (fall_any (settleTo p f k) x (f k) w1.heap.size g _ hD1.out (by simp; omega) HT.out.1 (fun s hs => by have := HT.out.2.1 s hs; omega) (HFb.out k)).mono ?_; rintro e w5 ⟨rfl, hD5, hb5⟩))
      all_goals
        go_wp2_with fail
        go_roundw
        case rel => exact ⟨k + 1, by omega, by go_num, by rw [HT.out.2.2]; exact hD5, HB.out.trans (Below.trans (by go_grown) hb5)⟩
        case measure => simp [intOf]; omega
    · obtain rfl : k = m := by omega
      obtain ⟨a1, a2, a3, a4, hk, ho1, ho2, hg⟩ := HD.out
      have g1 := hk.cells 1 _ rfl
      have gf := hk.frozen
      have HK2 := Lib.hid (And.intro hk (And.intro ho1 (own_blk_ne ho1 hk (by decide))))
      have hs3 := HB0.out.2.2.below (HB.out.mono (show w.heap.size + 1 + 1 ≤ w1.heap.size by omega)) (by omega)
      clear hk ho1 ho2
      go_wp2_with fail
      refine (plain_any ⟨(settleTo p f k).sectors, []⟩ w1.heap.size g _ ⟨a1, a2, none, 0, by simpa using HK2.out.1.set_ 1 _, own_far HK2.out.2.1 HK2.out.2.2 _ _, World.ownsRow_nil _ _ _ _, hg⟩ (by simp; omega)).mono ?_
      rintro e w6 ⟨v, rfl, ⟨A1, c1, A2, c2, rfl, hown1, hown2⟩, hb6⟩
      have hne : w.heap.size + 1 ≠ g := by omega
      have hr := (hs3.far (p := ⟨g, 1, none⟩) hne (.slice none 0 0)).below hb6 (by simp; omega)
      have hB6 : Below w.heap.size w w6 := Below.trans (by go_grown) (hb6.mono (by simp; omega))
      have s0 := hr.cells 0 _ rfl
      have s1 := hr.cells 1 _ rfl
      have fs := hr.frozen
      simp only [List.getElem_toArray, List.getElem_cons_zero, List.getElem_cons_succ] at s0 s1
      have HO := Lib.hid (And.intro hown1 hown2)
      clear hr hs3 hb6 hown1 hown2 g1 gf q1
      go_wp2_with (with_reducible refine end_at ?_)
      refine end_ret (v := .tuple #[.agg #[.slice A1 (settleTo p f k).sectors.length c1, .slice A2 0 c2], .int .i64 0]) (by simp [results, Tryz.results55, go_sem, s0, s1]; try rfl) rfl ⟨_, rfl, ⟨A1, c1, A2, c2, rfl, own_base (base := w1.heap.size) ?_ (by omega), own_base (base := w1.heap.size) ?_ (by omega)⟩, by go_grown⟩
      · have h1 := HO.out.1
        repeat' (first | (with_reducible exact h1) | (with_reducible refine ownsRow_setCell_below ?_ (by first | (simp; done) | (simp; omega)) _))
      · have h1 := HO.out.2
        repeat' (first | (with_reducible exact h1) | (with_reducible refine ownsRow_setCell_below ?_ (by first | (simp; done) | (simp; omega)) _))
end Go.Proofs.YtpkomloblhbkiaaGreatDoor
namespace Go.Proofs.YtpkomloblhbkiaaGreatDoor
open Go.RowKit
set_option maxRecDepth 100000 in
set_option maxHeartbeats 2000000 in
theorem settle_crash_bad (p : Plat) (A A' : Option Addr) (n m c d : Nat) (h : Nat) (w : World) (HP : Hid (∀ W, Below w.heap.size w W → PlatAt W W.heap.size A n A' m p)) (hc : checkP p = false) :
    Calls Tryz.prog 55 #[.agg #[.slice A n c, .slice A' m d], .func (.func 56) #[] #[.pointer (some ⟨h, 0, none⟩)]] w fun e w' => ∃ v, e = .returned (.tuple #[v, .int .i64 1]) ∧ PlatOut w' w.heap.size v noPlat ∧ Below w.heap.size w w' := by
  go_enter Tryz.func55, Tryz.ntmps55
  go_wp2_with fail
  refine (checkP_any p A A' n m c d _ (HP.out _ (by go_grown))).mono ?_
  rintro e w1 ⟨rfl, hb1⟩
  rw [hc]
  have hB1 : Below w.heap.size w w1 := Below.trans (by go_grown) (hb1.mono (by simp; omega))
  have hr2 := (Blk.new_at (g := w.heap.size + 1) (by simp) _ _).below hb1 (by simp)
  have s0 := hr2.cells 0 _ rfl
  have s1 := hr2.cells 1 _ rfl
  have fs := hr2.frozen
  simp only [List.getElem_toArray, List.getElem_cons_zero, List.getElem_cons_succ] at s0 s1
  clear hr2 hb1
  go_wp2_with (with_reducible refine end_at ?_)
  refine end_ret (v := .tuple #[.agg #[.slice none 0 0, .slice none 0 0], .int .i64 1]) (by simp [results, Tryz.results55, go_sem, s0, s1]; try rfl) rfl ⟨_, rfl, ⟨none, 0, none, 0, rfl, World.ownsRow_nil _ _ _ _, World.ownsRow_nil _ _ _ _⟩, by go_grown⟩
set_option maxRecDepth 100000 in
set_option maxHeartbeats 2000000 in
theorem settle_crash_ok (p : Plat) (f : Nat → Int) (A A' : Option Addr) (n m c d : Nat) (h : Nat) (w : World) (HP : Hid (∀ W, Below w.heap.size w W → PlatAt W W.heap.size A n A' m p)) (hc : checkP p = true) (hm : p.cache.length = m) (hm100 : m ≤ 100) (hn200 : n ≤ 200)
    (HK : Hid (∀ k, k ≤ m → (settleTo p f k).sectors.length = p.sectors.length ∧ (∀ s ∈ (settleTo p f k).sectors, s.size ≤ 128) ∧ (settleTo p f k).cache = p.cache))
    (HX : Hid (∀ x ∈ p.cache, putB p.sectors.length x = true)) (HFb : Hid (∀ k, f k ≤ 9223372036854775807))
    (HF : Hid (∀ (W : World) (k : Nat), Below w.heap.size w W → Calls Tryz.prog 56 #[.int .i64 k, .pointer (some ⟨h, 0, none⟩)] W fun e w' => e = .returned (.int .i64 (f k)) ∧ W = w')) :
    Calls Tryz.prog 55 #[.agg #[.slice A n c, .slice A' m d], .func (.func 56) #[] #[.pointer (some ⟨h, 0, none⟩)]] w fun e w' => ∃ v, e = .returned (.tuple #[v, .int .i64 0]) ∧ PlatOut w' w.heap.size v ⟨(settleTo p f m).sectors, []⟩ ∧ Below w.heap.size w w' := by
  have HM := Lib.hid hm
  clear hm
  go_enter Tryz.func55, Tryz.ntmps55
  go_wp2_with fail
  refine (checkP_any p A A' n m c d _ (HP.out _ (by go_grown))).mono ?_
  rintro e w1 ⟨rfl, hb1⟩
  rw [hc]
  have hB1 : Below w.heap.size w w1 := Below.trans (by go_grown) (hb1.mono (by simp; omega))
  have hz1 := hb1.size
  simp only [World.size_alloc] at hz1
  have hr1 := ((Blk.new w _ _).alloc _).below hb1 (by simp; omega)
  have q0 := hr1.cells 0 _ rfl
  have q1 := hr1.cells 1 _ rfl
  simp only [List.getElem_toArray, List.getElem_cons_zero, List.getElem_cons_succ] at q0 q1
  go_wp2_with fail
  refine (dcopied_any p A A' n m c d w1 (HP.out _ hB1) (by omega) (by omega)).mono ?_
  rintro e w2 ⟨g, rfl, hD2, hb2⟩
  have hr2 := hr1.below hb2 hr1.lt
  have hs2 := ((Blk.new_at (g := w.heap.size + 1) (by simp) _ _).below hb1 (by simp)).below hb2 (by omega)
  have hB2 := hB1.trans (hb2.mono (by omega))
  have hz2 := hb2.size
  clear q0 q1
  have q1 := hr2.cells 1 _ rfl
  simp only [List.getElem_toArray, List.getElem_cons_zero, List.getElem_cons_succ] at q1
  have HB0 := Lib.hid (And.intro hB2 (And.intro hr2 hs2))
  clear hr1 hb1 hb2 hB1 hr2 hs2 hB2
  go_wp2_with fail
  go_loopw [21] (fun i wr => ∃ k : Nat, k ≤ m ∧ i = .int .i64 k ∧ Hid (Disk wr w1.heap.size g (settleTo p f k)) ∧ Hid (Below w1.heap.size w2 wr)) (fun i _ => m - (intOf i).toNat)
  case atStart => exact ⟨0, Nat.zero_le _, rfl, hD2, Below.refl _ _⟩
  case round =>
    obtain ⟨k, hk, rfl, HD, HB⟩ := hrel
    have hBr : Below w.heap.size w wr := HB0.out.1.trans (HB.out.mono (by omega))
    have hzr := HB.out.size
    by_cases hlt : k < m
    · obtain ⟨x, hx⟩ : ∃ x, p.cache[k]? = some x := ⟨p.cache[k]'(by rw [HM.out]; exact hlt), List.getElem?_eq_getElem (by rw [HM.out]; exact hlt)⟩
      have hxg : p.cache.getD k noPut = x := by simp [List.getD, hx]
      have hxp := HX.out x (List.mem_of_getElem? hx)
      obtain ⟨hl, hsz, hca⟩ := HK.out k (by omega)
      rw [← hl] at hxp
      have hst : settleTo p f (k + 1) = fallF (settleTo p f k) x (f k) := by rw [settleTo, hxg]
      rcases (HP.out wr hBr).2.2 with h0 | ⟨b, off, rfl, hb, hC⟩
      · omega
      obtain ⟨c0, c1⟩ := hC.put hx
      have HT := Lib.hid (And.intro hxp (And.intro hsz hst))
      have HC := Lib.hid hC
      have hD1 : Hid (Disk (wr.alloc (.cells #[.int .i64 x.pos, .string x.text] 159)).drew w1.heap.size g (settleTo p f k)) := by
        obtain ⟨a1, a2, a3, a4, e1, e2, e3, e4⟩ := HD.out
        exact ⟨a1, a2, a3, a4, e1.alloc _, e2.alloc _, e3.alloc _, e4⟩
      clear hx hxg hxp hl hsz hca hst hC
      go_wp2_with fail
      go_region_with (first
        | (go_at_call 56; refine (HF.out _ k (by go_grown)).mono ?_; rintro e w' ⟨rfl, rfl⟩)
        | (go_at_call 98; refine (fall_any (settleTo p f k) x (f k) w1.heap.size g _ hD1.out (by simp; omega) HT.out.1 (fun s hs => by have := HT.out.2.1 s hs; omega) (HFb.out k)).mono ?_; rintro e w5 ⟨rfl, hD5, hb5⟩))
      all_goals
        go_wp2_with fail
        go_roundw
        case rel => exact ⟨k + 1, by omega, by go_num, by rw [HT.out.2.2]; exact hD5, HB.out.trans (Below.trans (by go_grown) hb5)⟩
        case measure => simp [intOf]; omega
    · obtain rfl : k = m := by omega
      obtain ⟨a1, a2, a3, a4, hk, ho1, ho2, hg⟩ := HD.out
      have g1 := hk.cells 1 _ rfl
      have gf := hk.frozen
      have HK2 := Lib.hid (And.intro hk (And.intro ho1 (own_blk_ne ho1 hk (by decide))))
      have hs3 := HB0.out.2.2.below (HB.out.mono (show w.heap.size + 1 + 1 ≤ w1.heap.size by omega)) (by omega)
      clear hk ho1 ho2
      go_wp2_with fail
      refine (plain_any ⟨(settleTo p f k).sectors, []⟩ w1.heap.size g _ ⟨a1, a2, none, 0, by simpa using HK2.out.1.set_ 1 _, own_far HK2.out.2.1 HK2.out.2.2 _ _, World.ownsRow_nil _ _ _ _, hg⟩ (by simp; omega)).mono ?_
      rintro e w6 ⟨v, rfl, ⟨A1, c1, A2, c2, rfl, hown1, hown2⟩, hb6⟩
      have hne : w.heap.size + 1 ≠ g := by omega
      have hr := (hs3.far (p := ⟨g, 1, none⟩) hne (.slice none 0 0)).below hb6 (by simp; omega)
      have hB6 : Below w.heap.size w w6 := Below.trans (by go_grown) (hb6.mono (by simp; omega))
      have s0 := hr.cells 0 _ rfl
      have s1 := hr.cells 1 _ rfl
      have fs := hr.frozen
      simp only [List.getElem_toArray, List.getElem_cons_zero, List.getElem_cons_succ] at s0 s1
      have HO := Lib.hid (And.intro hown1 hown2)
      clear hr hs3 hb6 hown1 hown2 g1 gf q1
      go_wp2_with (with_reducible refine end_at ?_)
      refine end_ret (v := .tuple #[.agg #[.slice A1 (settleTo p f k).sectors.length c1, .slice A2 0 c2], .int .i64 0]) (by simp [results, Tryz.results55, go_sem, s0, s1]; try rfl) rfl ⟨_, rfl, ⟨A1, c1, A2, c2, rfl, own_base (base := w1.heap.size) ?_ (by omega), own_base (base := w1.heap.size) ?_ (by omega)⟩, by go_grown⟩
      · have h1 := HO.out.1
        repeat' (first | (with_reducible exact h1) | (with_reducible refine ownsRow_setCell_below ?_ (by first | (simp; done) | (simp; omega)) _))
      · have h1 := HO.out.2
        repeat' (first | (with_reducible exact h1) | (with_reducible refine ownsRow_setCell_below ?_ (by first | (simp; done) | (simp; omega)) _))
end Go.Proofs.YtpkomloblhbkiaaGreatDoor
