/- platter: what is done to a disk that is worked on: wait, lay, begin, fall, plain. -/
import Derived.Test.YtefodifmfjpnlaaPlatC
set_option linter.unusedVariables false
namespace Go.Proofs.Ytefodifmfjpnlaa
open Go.RowKit
theorem own_own_ne {w : World} {b b' e e' s s' n n' : Nat} {v v' : Value} {xs xs' : List Value} (h : w.ownsRow b e s v n xs) (h' : w.ownsRow b' e' s' v' n' xs') (hne : e ≠ e') : ∀ g, v.ownBlock = some g → v'.ownBlock ≠ some g := by
  intro g hg hg'
  rcases h.2 with ⟨rfl, _⟩ | ⟨g1, cap, cur, rfl, _, hh, _⟩
  · simp [Value.ownBlock] at hg
  · rcases h'.2 with ⟨rfl, _⟩ | ⟨g2, cap2, cur2, rfl, _, hh2, _⟩
    · simp [Value.ownBlock] at hg'
    · simp [Value.ownBlock] at hg hg'
      subst hg; subst hg'
      rw [hh] at hh2
      injection hh2 with hh2
      injection hh2 with _ ht
      exact hne ht

set_option maxHeartbeats 400000 in
theorem wait_any (p : Plat) (i : Int) (s : ByteArray) (B g : Nat) (w : World) (hD : Disk w B g p) (hB : B ≤ w.heap.size) (hn : p.cache.length ≤ 1000) :
    Calls Try.prog 33 #[.pointer (some ⟨g, 0, none⟩), .int .i64 i, .string s] w fun e w' =>
      e = .returned (.tuple #[]) ∧ Disk w' B g { p with cache := p.cache ++ [⟨i, s⟩] } ∧ Below B w w' := by
  obtain ⟨i1, hj0, hy0, hy1, hy2⟩ := info_parts put_info
  obtain ⟨L, M⟩ := p
  obtain ⟨A, c, A', c', hk, ho1, ho2, hBg⟩ := hD
  simp only at hk ho1 ho2 hn ⊢
  have k1 := hk.cells 1 _ rfl
  have f1 := hk.frozen 1
  have hlt := hk.lt
  have hne := own_blk_ne ho2 hk (by decide)
  have hne1 := own_blk_ne ho1 hk (by decide)
  have hoo := own_own_ne ho1 ho2 (by decide)
  have HO := Lib.hid (And.intro ho1 (And.intro ho2 (And.intro hoo hne1)))
  clear ho1 ho2 hoo hne1
  go_enter Try.func33, Try.ntmps33
  go_wp2_with (at_builtin; refine wpList_append_any _ rfl (.tmp 10) (.tmp 14) _ rfl B _ i1 _ 2 24 Try.underlying23 hj0 hy0 hy1 hy2 rfl (by omega) (.slice A' M.length c') M.length (flat encP M) rfl (HO.out.2.1.alloc _) (w.heap.size + 1) (some ⟨w.heap.size, 0, none⟩) 1 1 [.int .i64 i, .string s] rfl (Reads.new_at (by simp) 42 #[.int .i64 i, .string s] rfl) (one_flatP [⟨i, s⟩]) (by simp only [maxLen]; omega) (by omega) (by simp; omega) ?_; intro v1 w1 hown1 hg1 hat1; obtain ⟨A1, c1, rfl, _, _, _⟩ := own_form hown1; have hk1 := (hk.alloc _).grown hg1 (fun h => hne h.symm); have q1 := hk1.cells 1 _ rfl; have r1 := hk1.frozen 1; have hb1 : Below B w w1 := Below.grown (by go_grown) hg1 (by simp; omega) (fun k h => (HO.out.2.1.lt k h).1))
  go_end0
  refine ⟨rfl, ⟨A, c, A1, c1, ?_, ?_, ?_, hBg⟩, hb1.setCell hBg _⟩
  · simpa using hk1.set_ 1 _
  · refine own_far ((HO.out.1.alloc _).kept hg1 ?_) HO.out.2.2.2 _ _
    cases hb : (Value.slice A L.length c).ownBlock with
    | none => exact .inl rfl
    | some b => exact .inr (fun e => HO.out.2.2.1 b hb e.symm)
  · simp only [List.length_append, List.length_singleton, flat_snoc]
    exact own_far hown1 (own_blk_ne hown1 hk1 (by decide)) _ _

theorem flat_set (L : List ByteArray) (i : Nat) (s : ByteArray) : (flat encS L).set i (.string s) = flat encS (L.set i s) := by
  induction L generalizing i with
  | nil => simp [flat]
  | cons x L ih =>
    cases i with
    | zero => simp [flat, encS]
    | succ i => have := ih i; simp only [flat, encS, List.flatMap_cons, List.cons_append, List.nil_append, List.set_cons_succ] at *; rw [this]

/-- what a disk is known by in a walk -/
theorem Disk.open_ {w : World} {B g : Nat} {p : Plat} (h : Disk w B g p) {i : Nat} (hi : i < p.sectors.length) : ∃ b c A' c',
    Blk w g 80 #[.slice (some ⟨b, 0, none⟩) p.sectors.length c, .slice A' p.cache.length c'] ∧
    (∀ old, p.sectors[i]? = some old → w.cell? ⟨b, i, none⟩ = some (.string old)) ∧ w.frozen? ⟨b, i, none⟩ = false ∧ B ≤ b ∧ B ≤ g ∧
    (∀ s : ByteArray, Disk (w.setCell ⟨b, i, none⟩ (.string s)) B g { p with sectors := p.sectors.set i s }) := by
  obtain ⟨A, c, A', c', hk, ho1, ho2, hBg⟩ := h
  obtain ⟨A1, c1, hv, _, _, h0⟩ := own_form ho1
  obtain ⟨rfl, rfl⟩ : A = A1 ∧ c = c1 := by injection hv with h1 _ h2; exact ⟨h1, h2⟩
  obtain ⟨b, rfl, hbB, hbw⟩ : ∃ b, A = some ⟨b, 0, none⟩ ∧ B ≤ b ∧ b < w.heap.size := by
    rcases h0 with h0 | h0
    · omega
    · exact h0
  refine ⟨b, c, A', c', hk, fun old ho => ?_, ho1.frozenAt i, hbB, hBg, fun s => ⟨some ⟨b, 0, none⟩, c, A', c', ?_, ?_, ?_, hBg⟩⟩
  · rw [ho1.cellAt i (by omega)]
    have := flat_get encS_len p.sectors i old ho 0 _ rfl
    simpa using this
  · have : g ≠ b := fun e => by subst e; exact own_blk_ne ho1 hk (by decide) rfl
    simpa using hk.far (p := ⟨b, i, none⟩) this (.string s)
  · have := (ho1.stored i (.string s)).1
    rw [flat_set] at this
    simpa using this
  · exact own_far ho2 (own_own_ne ho1 ho2 (by decide) b rfl) _ _

set_option maxHeartbeats 400000 in
theorem lay_any (p : Plat) (i : Nat) (s : ByteArray) (B g : Nat) (w : World) (hD : Disk w B g p) (hi : i < p.sectors.length) :
    Calls Try.prog 58 #[.pointer (some ⟨g, 0, none⟩), .int .i64 i, .string s] w fun e w' =>
      e = .returned (.tuple #[]) ∧ Disk w' B g { p with sectors := p.sectors.set i s } ∧ Below B w w' := by
  obtain ⟨b, c, A', c', hk, hold, hf, hBb, hBg, hset⟩ := hD.open_ hi
  have k0 := hk.cells 0 _ rfl
  have c0 := hold _ (List.getElem?_eq_getElem hi)
  have HS := Lib.hid (hset s)
  clear hold hset hD hk
  go_enter Try.func58, Try.ntmps58
  go_wp2
  go_end0
  exact ⟨rfl, HS.out, by go_grown⟩

/-- the first n bytes of a text, and behind them what was there from place n on -/
def mixB (old s : ByteArray) (n : Nat) : ByteArray := if n < old.size then s.extract 0 (min n s.size) ++ old.extract n old.size else s.extract 0 (min n s.size)

set_option maxHeartbeats 400000 in
theorem begin_any (p : Plat) (i n : Nat) (s old : ByteArray) (B g : Nat) (w : World) (hD : Disk w B g p) (hi : i < p.sectors.length) (ho : p.sectors[i]? = some old) (hs : s.size ≤ 1000) (hos : old.size ≤ 1000) (hn : n ≤ 9223372036854775807) :
    Calls Try.prog 59 #[.pointer (some ⟨g, 0, none⟩), .int .i64 i, .string s, .int .i64 n] w fun e w' =>
      e = .returned (.tuple #[]) ∧ Disk w' B g { p with sectors := p.sectors.set i (mixB old s n) } ∧ Below B w w' := by
  obtain ⟨b, c, A', c', hk, hold, hf, hBb, hBg, hset⟩ := hD.open_ hi
  have k0 := hk.cells 0 _ rfl
  have c0 := hold _ ho
  have HS := Lib.hid (hset (mixB old s n))
  clear hold hset hD hk ho
  by_cases h1 : n ≤ s.size
  · by_cases h2 : n < old.size
    · have e1 : mixB old s n = s.extract 0 n ++ old.extract n old.size := by rw [mixB, if_pos h2, Nat.min_eq_left h1]
      rw [e1] at HS ⊢
      clear e1
      go_enter Try.func59, Try.ntmps59
      go_wp2
      go_end0
      exact ⟨rfl, HS.out, by go_grown⟩
    · have e1 : mixB old s n = s.extract 0 n := by rw [mixB, if_neg h2, Nat.min_eq_left h1]
      rw [e1] at HS ⊢
      clear e1
      go_enter Try.func59, Try.ntmps59
      go_wp2
      go_end0
      exact ⟨rfl, HS.out, by go_grown⟩
  · have e0 : s.extract 0 s.size = s := by simp
    by_cases h2 : n < old.size
    · have e1 : mixB old s n = s ++ old.extract n old.size := by rw [mixB, if_pos h2, Nat.min_eq_right (by omega), e0]
      rw [e1] at HS ⊢
      clear e1 e0
      go_enter Try.func59, Try.ntmps59
      go_wp2
      go_end0
      exact ⟨rfl, HS.out, by go_grown⟩
    · have e1 : mixB old s n = s := by rw [mixB, if_neg h2, Nat.min_eq_right (by omega), e0]
      rw [e1] at HS ⊢
      clear e1 e0
      go_enter Try.func59, Try.ntmps59
      go_wp2
      go_end0
      exact ⟨rfl, HS.out, by go_grown⟩
/-- what becomes of the text that waits, by its fate -/
def fallF (p : Plat) (x : PPut) (fate : Int) : Plat :=
  if fate ≤ 0 then p else if fate = 1 then { p with sectors := p.sectors.set x.pos.toNat x.text } else { p with sectors := p.sectors.set x.pos.toNat (mixB (p.sectors.getD x.pos.toNat ByteArray.empty) x.text (fate - 2).toNat) }

set_option maxHeartbeats 400000 in
theorem fall_any (p : Plat) (x : PPut) (fate : Int) (B g : Nat) (w : World) (hD : Disk w B g p) (hB : B ≤ w.heap.size) (hx : putB p.sectors.length x = true) (hs : ∀ s ∈ p.sectors, s.size ≤ 1000) (hn : fate ≤ 9223372036854775807) :
    Calls Try.prog 52 #[.pointer (some ⟨g, 0, none⟩), .agg #[.int .i64 x.pos, .string x.text], .int .i64 fate] w fun e w' =>
      e = .returned (.tuple #[]) ∧ Disk w' B g (fallF p x fate) ∧ Below B w w' := by
  obtain ⟨pos, text⟩ := x
  simp only [putB, longB, hasB, Bool.and_eq_true, decide_eq_true_eq, Bool.not_eq_true', decide_eq_false_iff_not] at hx
  obtain ⟨ht, h0, hlt⟩ := hx
  obtain ⟨i, rfl⟩ := Int.eq_ofNat_of_zero_le h0
  have hi : i < p.sectors.length := by omega
  obtain ⟨old, ho⟩ : ∃ x, p.sectors[i]? = some x := ⟨p.sectors[i], List.getElem?_eq_getElem hi⟩
  have hold := hs old (List.mem_of_getElem? ho)
  have hg : p.sectors.getD i ByteArray.empty = old := by simp [List.getD, ho]
  have HD : Hid (∀ W, Below w.heap.size w W → Disk W B g p) := by
    intro W hb
    obtain ⟨A, c, A', c', hk, ho1, ho2, hBg⟩ := hD
    exact ⟨A, c, A', c', hk.below hb hk.lt, own_below ho1 hb (Nat.le_refl _), own_below ho2 hb (Nat.le_refl _), hBg⟩
  have HW : Hid (∀ W W', Below w.heap.size w W → Below B W W' → Below B w W') := fun W W' h1 h2 => (h1.mono hB).trans h2
  by_cases f0 : fate ≤ 0
  · have e1 : fallF p ⟨i, text⟩ fate = p := by simp [fallF, f0]
    rw [e1]
    go_enter Try.func52, Try.ntmps52
    go_wp2
    go_end0
    exact ⟨rfl, HD.out _ (by go_grown), by go_grown⟩
  · by_cases f1 : fate = 1
    · have e1 : fallF p ⟨i, text⟩ fate = { p with sectors := p.sectors.set i text } := by simp [fallF, f1]
      rw [e1]
      subst f1
      clear hg e1
      go_enter Try.func52, Try.ntmps52
      go_wp2_with fail
      refine (lay_any p i text B g _ (HD.out _ (by go_grown)) hi).mono ?_
      rintro e w1 ⟨rfl, hD1, hb1⟩
      go_wp2_with fail
      go_end0
      exact ⟨rfl, hD1, HW.out _ _ (by go_grown) hb1⟩
    · have e1 : fallF p ⟨i, text⟩ fate = { p with sectors := p.sectors.set i (mixB old text (fate - 2).toNat) } := by simp [fallF, f0, f1, ho]
      rw [e1]
      obtain ⟨n, hfn⟩ := Int.eq_ofNat_of_zero_le (show 0 ≤ fate - 2 by omega)
      have HF := Lib.hid hfn
      have hf2 : 2 ≤ fate := by omega
      have t1 : (fate == 1) = false := by simpa using f1
      rw [hfn, Int.toNat_natCast]
      clear hg e1 hfn f1
      go_enter Try.func52, Try.ntmps52
      go_wp2_with fail
      rw [HF.out]
      refine (begin_any p i n text old B g _ (HD.out _ (by go_grown)) hi ho (by omega) hold (by have := HF.out; omega)).mono ?_
      rintro e w1 ⟨rfl, hD1, hb1⟩
      go_wp2_with fail
      go_end0
      exact ⟨rfl, hD1, HW.out _ _ (by go_grown) hb1⟩

/-- a value that is the platter p, its rows its own, from B on -/
def PlatOut (w' : World) (B : Nat) (v : Value) (p : Plat) : Prop := ∃ A c A' c', v = .agg #[.slice A p.sectors.length c, .slice A' p.cache.length c'] ∧
  w'.ownsRow B 9 1 (.slice A p.sectors.length c) p.sectors.length (flat encS p.sectors) ∧
  w'.ownsRow B 42 2 (.slice A' p.cache.length c') p.cache.length (flat encP p.cache)

set_option maxHeartbeats 400000 in
theorem plain_any (p : Plat) (B g : Nat) (w : World) (hD : Disk w B g p) (hB : B ≤ w.heap.size) :
    Calls Try.prog 51 #[.pointer (some ⟨g, 0, none⟩)] w fun e w' =>
      ∃ v, e = .returned v ∧ PlatOut w' B v p ∧ Below w.heap.size w w' := by
  obtain ⟨A, c, A', c', hk, ho1, ho2, hBg⟩ := hD
  have k0 := hk.cells 0 _ rfl
  have k1 := hk.cells 1 _ rfl
  have hlt := hk.lt
  have HO := Lib.hid (And.intro ho1 ho2)
  have HBL : Hid (∀ k, (Value.slice A p.sectors.length c).ownBlock = some k → k < w.heap.size) := fun k h => (ho1.lt k h).2
  have HBL2 : Hid (∀ k, (Value.slice A' p.cache.length c').ownBlock = some k → k < w.heap.size) := fun k h => (ho2.lt k h).2
  clear ho1 ho2 hk
  go_enter Try.func51, Try.ntmps51
  go_wp2_with fail
  go_region
  all_goals go_wp2_with (with_reducible refine end_at ?_)
  all_goals
    refine end_ret (v := .agg #[.slice A p.sectors.length c, .slice A' p.cache.length c']) (by simp [results, Try.results51, go_sem]; try rfl) rfl ⟨_, rfl, ⟨A, c, A', c', rfl, ?_, ?_⟩, by go_grown⟩
    · have h1 := HO.out.1
      have h2 := HBL.out
      repeat' (first | (with_reducible exact h1) | (with_reducible refine World.ownsRow.drew ?_) | (with_reducible refine World.ownsRow.alloc ?_ _) | (with_reducible refine own_far ?_ (fun e => by have := h2 _ e; omega) _ _))
    · have h1 := HO.out.2
      have h2 := HBL2.out
      repeat' (first | (with_reducible exact h1) | (with_reducible refine World.ownsRow.drew ?_) | (with_reducible refine World.ownsRow.alloc ?_ _) | (with_reducible refine own_far ?_ (fun e => by have := h2 _ e; omega) _ _))
end Go.Proofs.Ytefodifmfjpnlaa
