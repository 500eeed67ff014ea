/- top26: what the loop of writes keeps. -/
import Derived.Test.YtpkomloblhbkiaaGreatDoorTopF
import Derived.Test.YtpkomloblhbkiaaGreatDoorTopC
set_option linter.unusedVariables false
set_option linter.unusedSimpArgs false
/- top26: a house, taken apart; what stays where one row of strings is written. -/
namespace Go.Proofs.YtpkomloblhbkiaaGreatDoor
open Go.RowKit
theorem grown_set (W : World) (k o : Nat) (u : Value) : W.grownBy (W.setCell ⟨k, o, none⟩ u) (some k) :=
  ⟨rfl, rfl, rfl, by simp [World.setCell], fun i _ hi => Below.heap_setCell W ⟨k, o, none⟩ u i (fun e => hi (by rw [show i = k from e]))⟩
theorem own_row {W W' : World} {row : Option Nat} {base sz n : Nat} {e : TypeId} {v : Value} {xs : List Value} (h : W.ownsRow base e sz v n xs) (hg : W.grownBy W' row) (hne : ∀ k, row = some k → v.ownBlock ≠ some k) : W'.ownsRow base e sz v n xs := by
  refine ⟨h.1, ?_⟩
  rcases h.2 with hn | ⟨g, cap, cur, rfl, hb', hh, rest⟩
  · exact .inl hn
  · have hlt := (Array.getElem?_eq_some_iff.1 hh).1
    exact .inr ⟨g, cap, cur, rfl, hb', (hg.block g hlt (fun e => hne g e.symm (by simp [Value.ownBlock]))).trans hh, rest⟩
theorem srow_row {W W' : World} {row : Option Nat} {base : Nat} {v : Value} {L : List ByteArray} (h : SRow W base v L) (hg : W.grownBy W' row) (hne : ∀ k, row = some k → v.ownBlock ≠ some k) : SRow W' base v L := own_row h hg hne
/-- a platter, where a block of strings is written that is not its sectors' -/
theorem plat_row {W W' : World} {row : Option Nat} {B : Nat} {P1 P2 : Value} {p : Plat} {base sz n : Nat} {v : Value} {xs : List Value} (h : PlatOut W B (.agg #[P1, P2]) p) (hv : W.ownsRow base 9 sz v n xs) (hg : W.grownBy W' row) (hrow : ∀ k, row = some k → v.ownBlock = some k) (hne : ∀ k, row = some k → P1.ownBlock ≠ some k) : PlatOut W' B (.agg #[P1, P2]) p := by
  obtain ⟨A, c, A', c', e, q1, q2⟩ := h
  simp only [Value.agg.injEq, Array.mk.injEq, List.cons.injEq, and_true] at e
  obtain ⟨rfl, rfl⟩ := e
  refine ⟨A, c, A', c', rfl, own_row q1 hg hne, own_row q2 hg fun k hk => ?_⟩
  exact own_own_ne hv q2 (by decide) k (hrow k hk)
theorem away_of_lt {a b : Value} {N : Nat} (ha : ∀ k, a.ownBlock = some k → k < N) (hb : ∀ k, b.ownBlock = some k → N ≤ k) : Away a b := fun k h1 h2 => by
  have := ha k h1; have := hb k h2; omega
theorem away_of_gt {a b : Value} {N : Nat} (ha : ∀ k, a.ownBlock = some k → N ≤ k) (hb : ∀ k, b.ownBlock = some k → k < N) : Away a b := fun k h1 h2 => by
  have := ha k h1; have := hb k h2; omega
theorem srow_lt {W : World} {B : Nat} {v : Value} {L : List ByteArray} (h : SRow W B v L) : ∀ k, v.ownBlock = some k → k < W.heap.size := fun k hk => (orow_lt h hk).2
theorem srow_ge {W : World} {B : Nat} {v : Value} {L : List ByteArray} (h : SRow W B v L) : ∀ k, v.ownBlock = some k → B ≤ k := fun k hk => (orow_lt h hk).1
theorem plat_lt {W : World} {B : Nat} {P1 P2 : Value} {p : Plat} (h : PlatOut W B (.agg #[P1, P2]) p) : ∀ k, P1.ownBlock = some k → k < W.heap.size := fun k hk => by
  obtain ⟨A, c, A', c', e, q1, q2⟩ := h
  simp only [Value.agg.injEq, Array.mk.injEq, List.cons.injEq, and_true] at e
  obtain ⟨rfl, rfl⟩ := e
  exact (World.ownsRow.lt q1 k hk).2
theorem plat_ge {W : World} {B : Nat} {P1 P2 : Value} {p : Plat} (h : PlatOut W B (.agg #[P1, P2]) p) : ∀ k, P1.ownBlock = some k → B ≤ k := fun k hk => by
  obtain ⟨A, c, A', c', e, q1, q2⟩ := h
  simp only [Value.agg.injEq, Array.mk.injEq, List.cons.injEq, and_true] at e
  obtain ⟨rfl, rfl⟩ := e
  exact (World.ownsRow.lt q1 k hk).1
/-- a House, taken apart -/
structure HouseIn (w : World) (B g : Nat) (P1 P2 Q1 Q2 : Value) (s : Src) (key : ByteArray) (sv dv : Value) (p q : Plat) (said drawn : List ByteArray) : Prop where
  b : Blk w g 46 (houseC P1 P2 Q1 Q2 s key sv dv)
  p : PlatOut w B (.agg #[P1, P2]) p
  q : PlatOut w B (.agg #[Q1, Q2]) q
  s : SRow w B sv said
  d : SRow w B dv drawn
  ap : Away dv P1
  aq : Away dv Q1
  asv : Away dv sv
section
variable {w w' : World} {B g : Nat} {P1 P2 Q1 Q2 : Value} {s : Src} {key : ByteArray} {sv dv : Value} {p q : Plat} {said drawn : List ByteArray}
theorem HouseIn.on_ (h : HouseIn w B g P1 P2 Q1 Q2 s key sv dv p q said drawn) (hb : Below w.heap.size w w') : HouseIn w' B g P1 P2 Q1 Q2 s key sv dv p q said drawn :=
  ⟨h.b.below hb h.b.lt, h.p.on_ hb, h.q.on_ hb, orow_below h.s hb (Nat.le_refl _), orow_below h.d hb (Nat.le_refl _), h.ap, h.aq, h.asv⟩
/-- a block of strings is written that none of its rows lies in -/
theorem HouseIn.row {row : Option Nat} {base sz n : Nat} {v : Value} {xs : List Value} (h : HouseIn w B g P1 P2 Q1 Q2 s key sv dv p q said drawn) (hv : w.ownsRow base 9 sz v n xs) (hg : w.grownBy w' row) (hrow : ∀ k, row = some k → v.ownBlock = some k) (hP : Away v P1) (hQ : Away v Q1) (hS : Away v sv) (hD : Away v dv) : HouseIn w' B g P1 P2 Q1 Q2 s key sv dv p q said drawn :=
  ⟨h.b.grown hg (fun e => own_blk_ne hv h.b (by decide) (hrow g e.symm)), plat_row h.p hv hg hrow (fun k hk => hP k (hrow k hk)), plat_row h.q hv hg hrow (fun k hk => hQ k (hrow k hk)), srow_row h.s hg (fun k hk => hS k (hrow k hk)), srow_row h.d hg (fun k hk => hD k (hrow k hk)), h.ap, h.aq, h.asv⟩
/-- a box of another kind is stored into -/
theorem HouseIn.far {b : Nat} {t : TypeId} {cs : Array Value} (h : HouseIn w B g P1 P2 Q1 Q2 s key sv dv p q said drawn) (hb : Blk w b t cs) (h1 : 9 ≠ t) (h2 : 159 ≠ t) (h3 : 46 ≠ t) (o : Nat) (u : Value) : HouseIn (w.setCell ⟨b, o, none⟩ u) B g P1 P2 Q1 Q2 s key sv dv p q said drawn :=
  ⟨h.b.far (p := ⟨b, o, none⟩) (Blk.ne_ h.b hb h3) u, h.p.far hb h1 h2 o u, h.q.far hb h1 h2 o u, orow_far h.s hb h1 o u, orow_far h.d hb h1 o u, h.ap, h.aq, h.asv⟩
theorem HouseIn.setN {N1 N2 : Value} {q' : Plat} (h : HouseIn w B g P1 P2 Q1 Q2 s key sv dv p q said drawn) (hq : PlatOut w B (.agg #[N1, N2]) q') (ha : Away dv N1) : HouseIn ((w.setCell ⟨g, 2, none⟩ N1).setCell ⟨g, 3, none⟩ N2) B g P1 P2 N1 N2 s key sv dv p q' said drawn := by
  have k1 := h.b.set_ 2 N1
  exact ⟨k1.set_ 3 N2, (h.p.far h.b (by decide) (by decide) 2 N1).far k1 (by decide) (by decide) 3 N2, (hq.far h.b (by decide) (by decide) 2 N1).far k1 (by decide) (by decide) 3 N2, orow_far (orow_far h.s h.b (by decide) 2 N1) k1 (by decide) 3 N2, orow_far (orow_far h.d h.b (by decide) 2 N1) k1 (by decide) 3 N2, h.ap, ha, h.asv⟩
theorem HouseIn.setP {N1 N2 : Value} {p' : Plat} (h : HouseIn w B g P1 P2 Q1 Q2 s key sv dv p q said drawn) (hq : PlatOut w B (.agg #[N1, N2]) p') (ha : Away dv N1) : HouseIn ((w.setCell ⟨g, 0, none⟩ N1).setCell ⟨g, 1, none⟩ N2) B g N1 N2 Q1 Q2 s key sv dv p' q said drawn := by
  have k1 := h.b.set_ 0 N1
  exact ⟨k1.set_ 1 N2, (hq.far h.b (by decide) (by decide) 0 N1).far k1 (by decide) (by decide) 1 N2, (h.q.far h.b (by decide) (by decide) 0 N1).far k1 (by decide) (by decide) 1 N2, orow_far (orow_far h.s h.b (by decide) 0 N1) k1 (by decide) 1 N2, orow_far (orow_far h.d h.b (by decide) 0 N1) k1 (by decide) 1 N2, ha, h.aq, h.asv⟩
theorem HouseIn.setS (h : HouseIn w B g P1 P2 Q1 Q2 s key sv dv p q said drawn) (t : Src) : HouseIn (((w.setCell ⟨g, 4, none⟩ (.int .i64 t.pos)).setCell ⟨g, 5, none⟩ (.int .i64 t.next)).setCell ⟨g, 6, none⟩ (.int .i64 t.limit)) B g P1 P2 Q1 Q2 t key sv dv p q said drawn := by
  have k1 := h.b.set_ 4 (.int .i64 t.pos)
  have k2 := k1.set_ 5 (.int .i64 t.next)
  exact ⟨k2.set_ 6 (.int .i64 t.limit), ((h.p.far h.b (by decide) (by decide) 4 _).far k1 (by decide) (by decide) 5 _).far k2 (by decide) (by decide) 6 _, ((h.q.far h.b (by decide) (by decide) 4 _).far k1 (by decide) (by decide) 5 _).far k2 (by decide) (by decide) 6 _,
    orow_far (orow_far (orow_far h.s h.b (by decide) 4 _) k1 (by decide) 5 _) k2 (by decide) 6 _, orow_far (orow_far (orow_far h.d h.b (by decide) 4 _) k1 (by decide) 5 _) k2 (by decide) 6 _, h.ap, h.aq, h.asv⟩
theorem HouseIn.setSaid {v : Value} {L : List ByteArray} (h : HouseIn w B g P1 P2 Q1 Q2 s key sv dv p q said drawn) (hv : SRow w B v L) (ha : Away dv v) : HouseIn (w.setCell ⟨g, 8, none⟩ v) B g P1 P2 Q1 Q2 s key v dv p q L drawn :=
  ⟨h.b.set_ 8 v, h.p.far h.b (by decide) (by decide) 8 v, h.q.far h.b (by decide) (by decide) 8 v, orow_far hv h.b (by decide) 8 v, orow_far h.d h.b (by decide) 8 v, h.ap, h.aq, ha⟩
/-- its row of nonces grows -/
theorem HouseIn.draws_ {v : Value} {L : List ByteArray} (h : HouseIn w B g P1 P2 Q1 Q2 s key sv dv p q said drawn) (hg : w.grownBy w' dv.ownBlock) (hv : SRow w' B v L) (ho : v.ownBlock = dv.ownBlock ∨ v.ownBlock = some w.heap.size) : HouseIn (w'.setCell ⟨g, 9, none⟩ v) B g P1 P2 Q1 Q2 s key sv v p q said L := by
  have k : ∀ k, dv.ownBlock = some k → dv.ownBlock = some k := fun _ h => h
  have hb : Blk w' g 46 (houseC P1 P2 Q1 Q2 s key sv dv) := blk_grown_row h.b h.d (by decide) hg
  have hp := plat_row h.p h.d hg k h.ap
  have hq := plat_row h.q h.d hg k h.aq
  have hs : SRow w' B sv said := srow_row h.s hg h.asv
  have aw : ∀ {b : Value}, Away dv b → (∀ k, b.ownBlock = some k → k < w.heap.size) → Away v b := fun {b} ha hl k hk => by
    rcases ho with e | e
    · rw [e] at hk; exact ha k hk
    · rw [e] at hk
      injection hk with hk
      intro hb
      have := hl k hb
      omega
  exact ⟨hb.set_ 9 v, hp.far hb (by decide) (by decide) 9 v, hq.far hb (by decide) (by decide) 9 v, orow_far hs hb (by decide) 9 v, orow_far hv hb (by decide) 9 v, aw h.ap (plat_lt h.p), aw h.aq (plat_lt h.q), aw h.asv (srow_lt h.s)⟩
end
/-- a step as it lies below B -/
structure StepIn (w : World) (B : Nat) (x : TStp) : Prop where
  p : SlR encI 1 w B x.pa x.pn x.P
  t : SlR encS 1 w B x.ta x.tn x.T
  f : SlR encI 1 w B x.fa x.fn x.F
  o : SlR encI 1 w B x.oa x.on x.O
  ts : ∀ s ∈ x.T, s.size ≤ 140737488351232
  fs : ∀ i ∈ x.F, i ≤ 9223372036854775807
  os : ∀ i ∈ x.O, i ≤ 9223372036854775807
theorem StepIn.below {w w' : World} {B : Nat} {x : TStp} (h : StepIn w B x) (hb : Below B w w') : StepIn w' B x := ⟨h.p.below hb, h.t.below hb, h.f.below hb, h.o.below hb, h.ts, h.fs, h.os⟩
end Go.Proofs.YtpkomloblhbkiaaGreatDoor
namespace Go.Proofs.YtpkomloblhbkiaaGreatDoor
open Go.RowKit
theorem Away.symm {a b : Value} (h : Away a b) : Away b a := fun k h1 h2 => h k h2 h1
/-- blocks that are no House's and no texts' stay -/
def KeptT (w W : World) : Prop := ∀ (b : Nat) (t : TypeId) (cs : Array Value), Blk w b t cs → 46 ≠ t → 9 ≠ t → Blk W b t cs
/-- the memory: k is the first of the boxes (volume, step, result) -/
structure WMem (w : World) (B g k n : Nat) (P1 P2 sv : Value) (p : Plat) (key : ByteArray) (said0 : List ByteArray) (x : TStp) (Q1 Q2 dv : Value) (q : Plat) (s : Src) (drawn : List ByteArray) (A : Option Addr) (c : Nat) (v : Vol) (As : Option Addr) (cs : Nat) (said : List ByteArray) (W : World) : Prop where
  h : HouseIn W B g P1 P2 Q1 Q2 s key sv dv p q said0 drawn
  bv : Blk W k 36 #[.slice A n c, .string v.root]
  bx : Blk W (k + 1) 32 (stepC x)
  br : Blk W (k + 1 + 1) 36 #[.slice none 0 0, .string ⟨#[]⟩]
  rv : SRow W B (.slice A n c) v.blocks
  rs : SRow W B (.slice As n cs) said
  a1 : Away dv (.slice A n c)
  a2 : Away (.slice As n cs) dv
  a3 : Away (.slice As n cs) P1
  a4 : Away (.slice As n cs) Q1
  a5 : Away (.slice As n cs) sv
  a6 : Away (.slice As n cs) (.slice A n c)
  bl : Below B w W
  lo : B ≤ g ∧ B ≤ k
  kt : KeptT w W
  hk : w.heap.size ≤ k
section
variable {w W W' : World} {B g k n : Nat} {P1 P2 sv : Value} {p : Plat} {key : ByteArray} {said0 : List ByteArray} {x : TStp} {Q1 Q2 dv : Value} {q : Plat} {s : Src} {drawn : List ByteArray} {A : Option Addr} {c : Nat} {v : Vol} {As : Option Addr} {cs : Nat} {said : List ByteArray}
theorem WMem.big (h : WMem w B g k n P1 P2 sv p key said0 x Q1 Q2 dv q s drawn A c v As cs said W) : B ≤ W.heap.size := Nat.le_trans h.lo.1 (Nat.le_of_lt h.h.b.lt)
theorem WMem.on_ (h : WMem w B g k n P1 P2 sv p key said0 x Q1 Q2 dv q s drawn A c v As cs said W) (hb : Below W.heap.size W W') : WMem w B g k n P1 P2 sv p key said0 x Q1 Q2 dv q s drawn A c v As cs said W' :=
  ⟨h.h.on_ hb, h.bv.below hb h.bv.lt, h.bx.below hb h.bx.lt, h.br.below hb h.br.lt, orow_below h.rv hb (Nat.le_refl _), orow_below h.rs hb (Nat.le_refl _), h.a1, h.a2, h.a3, h.a4, h.a5, h.a6, h.bl.trans (hb.mono h.big), h.lo, fun b t cs h1 h2 h3 => (h.kt b t cs h1 h2 h3).below hb (h.kt b t cs h1 h2 h3).lt, h.hk⟩
theorem WMem.setN {N1 N2 : Value} {q' : Plat} {N : Nat} (h : WMem w B g k n P1 P2 sv p key said0 x Q1 Q2 dv q s drawn A c v As cs said W) (hq : PlatOut W B (.agg #[N1, N2]) q') (hN : ∀ k, N1.ownBlock = some k → N ≤ k) (hd : ∀ k, dv.ownBlock = some k → k < N) (hs : ∀ k, (Value.slice As n cs).ownBlock = some k → k < N) :
    WMem w B g k n P1 P2 sv p key said0 x N1 N2 dv q' s drawn A c v As cs said ((W.setCell ⟨g, 2, none⟩ N1).setCell ⟨g, 3, none⟩ N2) := by
  have kb := h.h.b
  have kb2 := kb.set_ 2 N1
  have t : ∀ {b : Nat} {t : TypeId} {cs : Array Value}, Blk W b t cs → 46 ≠ t → Blk ((W.setCell ⟨g, 2, none⟩ N1).setCell ⟨g, 3, none⟩ N2) b t cs := fun hb ht => (hb.far (p := ⟨g, 2, none⟩) (Blk.ne_ hb kb ht.symm) _).far (p := ⟨g, 3, none⟩) (Blk.ne_ hb kb ht.symm) _
  exact ⟨h.h.setN hq (away_of_lt hd hN), t h.bv (by decide), t h.bx (by decide), t h.br (by decide), orow_far (orow_far h.rv kb (by decide) 2 N1) kb2 (by decide) 3 N2, orow_far (orow_far h.rs kb (by decide) 2 N1) kb2 (by decide) 3 N2, h.a1, h.a2, h.a3, away_of_lt hs hN, h.a5, h.a6,
    (h.bl.setCell (p := ⟨g, 2, none⟩) h.lo.1 _).setCell (p := ⟨g, 3, none⟩) h.lo.1 _, h.lo, fun b ty cs h1 h2 h3 => t (h.kt b ty cs h1 h2 h3) h2, h.hk⟩
theorem WMem.setS (h : WMem w B g k n P1 P2 sv p key said0 x Q1 Q2 dv q s drawn A c v As cs said W) (t : Src) :
    WMem w B g k n P1 P2 sv p key said0 x Q1 Q2 dv q t drawn A c v As cs said (((W.setCell ⟨g, 4, none⟩ (.int .i64 t.pos)).setCell ⟨g, 5, none⟩ (.int .i64 t.next)).setCell ⟨g, 6, none⟩ (.int .i64 t.limit)) := by
  have kb := h.h.b
  have k1 := kb.set_ 4 (.int .i64 t.pos)
  have k2 := k1.set_ 5 (.int .i64 t.next)
  have tt : ∀ {b : Nat} {ty : TypeId} {cs : Array Value}, Blk W b ty cs → 46 ≠ ty → Blk (((W.setCell ⟨g, 4, none⟩ (.int .i64 t.pos)).setCell ⟨g, 5, none⟩ (.int .i64 t.next)).setCell ⟨g, 6, none⟩ (.int .i64 t.limit)) b ty cs := fun hb ht => ((hb.far (p := ⟨g, 4, none⟩) (Blk.ne_ hb kb ht.symm) _).far (p := ⟨g, 5, none⟩) (Blk.ne_ hb kb ht.symm) _).far (p := ⟨g, 6, none⟩) (Blk.ne_ hb kb ht.symm) _
  exact ⟨h.h.setS t, tt h.bv (by decide), tt h.bx (by decide), tt h.br (by decide), orow_far (orow_far (orow_far h.rv kb (by decide) 4 _) k1 (by decide) 5 _) k2 (by decide) 6 _, orow_far (orow_far (orow_far h.rs kb (by decide) 4 _) k1 (by decide) 5 _) k2 (by decide) 6 _, h.a1, h.a2, h.a3, h.a4, h.a5, h.a6,
    ((h.bl.setCell (p := ⟨g, 4, none⟩) h.lo.1 _).setCell (p := ⟨g, 5, none⟩) h.lo.1 _).setCell (p := ⟨g, 6, none⟩) h.lo.1 _, h.lo, fun b ty cs h1 h2 h3 => tt (h.kt b ty cs h1 h2 h3) h2, h.hk⟩
/-- the row of nonces grows, and is laid into its cell -/
theorem WMem.draws_ {u : Value} {L : List ByteArray} (h : WMem w B g k n P1 P2 sv p key said0 x Q1 Q2 dv q s drawn A c v As cs said W) (hg : W.grownBy W' dv.ownBlock) (hv : SRow W' B u L) (ho : u.ownBlock = dv.ownBlock ∨ u.ownBlock = some W.heap.size) :
    WMem w B g k n P1 P2 sv p key said0 x Q1 Q2 u q s L A c v As cs said (W'.setCell ⟨g, 9, none⟩ u) := by
  have kb : Blk W' g 46 (houseC P1 P2 Q1 Q2 s key sv dv) := blk_grown_row h.h.b h.h.d (by decide) hg
  have aw : ∀ {b : Value}, Away dv b → (∀ k, b.ownBlock = some k → k < W.heap.size) → Away u b := fun {b} ha hl k hk => by
    rcases ho with e | e
    · rw [e] at hk; exact ha k hk
    · rw [e] at hk
      injection hk with hk
      intro hb
      have := hl k hb
      omega
  have tt : ∀ {b : Nat} {ty : TypeId} {cs : Array Value}, Blk W b ty cs → 46 ≠ ty → 9 ≠ ty → Blk (W'.setCell ⟨g, 9, none⟩ u) b ty cs := fun hb ht hs => (blk_grown_row hb h.h.d hs hg).far (p := ⟨g, 9, none⟩) (Blk.ne_ hb h.h.b ht.symm) _
  have rv := srow_row h.rv hg h.a1
  have rs := srow_row h.rs hg h.a2.symm
  exact ⟨h.h.draws_ hg hv ho, tt h.bv (by decide) (by decide), tt h.bx (by decide) (by decide), tt h.br (by decide) (by decide), orow_far rv kb (by decide) 9 u, orow_far rs kb (by decide) 9 u, aw h.a1 (srow_lt h.rv), (aw h.a2.symm (srow_lt h.rs)).symm, h.a3, h.a4, h.a5, h.a6,
    (h.bl.grown hg h.big (fun k hk => (srow_ge h.h.d k hk))).setCell (p := ⟨g, 9, none⟩) h.lo.1 _, h.lo, fun b ty cs h1 h2 h3 => tt (h.kt b ty cs h1 h2 h3) h2 h3, h.hk⟩
/-- another volume is laid into its box -/
theorem WMem.setV {A' : Option Addr} {c' : Nat} {v' : Vol} {N : Nat} (h : WMem w B g k n P1 P2 sv p key said0 x Q1 Q2 dv q s drawn A c v As cs said W) (hr : SRow W B (.slice A' n c') v'.blocks) (hN : ∀ k, (Value.slice A' n c').ownBlock = some k → N ≤ k) (hd : ∀ k, dv.ownBlock = some k → k < N) (hs : ∀ k, (Value.slice As n cs).ownBlock = some k → k < N) :
    WMem w B g k n P1 P2 sv p key said0 x Q1 Q2 dv q s drawn A' c' v' As cs said ((W.setCell ⟨k, 0, none⟩ (.slice A' n c')).setCell ⟨k, 1, none⟩ (.string v'.root)) := by
  have kb := h.bv
  have k1 := kb.set_ 0 (.slice A' n c')
  have e1 : k + 1 ≠ k := by omega
  have e2 : k + 1 + 1 ≠ k := by omega
  exact ⟨(h.h.far kb (by decide) (by decide) (by decide) 0 _).far k1 (by decide) (by decide) (by decide) 1 _, k1.set_ 1 _, (h.bx.far (p := ⟨k, 0, none⟩) e1 _).far (p := ⟨k, 1, none⟩) e1 _, (h.br.far (p := ⟨k, 0, none⟩) e2 _).far (p := ⟨k, 1, none⟩) e2 _,
    orow_far (orow_far hr kb (by decide) 0 _) k1 (by decide) 1 _, orow_far (orow_far h.rs kb (by decide) 0 _) k1 (by decide) 1 _, away_of_lt hd hN, h.a2, h.a3, h.a4, h.a5, away_of_lt hs hN, (h.bl.setCell (p := ⟨k, 0, none⟩) h.lo.2 _).setCell (p := ⟨k, 1, none⟩) h.lo.2 _, h.lo,
    fun b ty cs h1 h2 h3 => by
      have hne : b ≠ k := by have := h1.lt; have := h.hk; omega
      exact ((h.kt b ty cs h1 h2 h3).far (p := ⟨k, 0, none⟩) hne _).far (p := ⟨k, 1, none⟩) hne _, h.hk⟩
/-- a text is said -/
theorem WMem.says {i : Nat} (h : WMem w B g k n P1 P2 sv p key said0 x Q1 Q2 dv q s drawn A c v As cs said W) (hl : said.length = n) (hi : i < n) (t : ByteArray) :
    ∃ (b : Nat) (y : ByteArray), As = some ⟨b, 0, none⟩ ∧ B ≤ b ∧ b < W.heap.size ∧ W.cell? ⟨b, i, none⟩ = some (.string y) ∧ (∀ k, W.frozen? ⟨b, k, none⟩ = false) ∧
      WMem w B g k n P1 P2 sv p key said0 x Q1 Q2 dv q s drawn A c v As cs (said.set i t) (W.setCell ⟨b, i, none⟩ (.string t)) := by
  obtain ⟨b, y, rfl, h1, h2, h3, h4, h5⟩ := srow_set h.rs hl hi t
  refine ⟨b, y, rfl, h1, h2, h3, h4, ?_⟩
  have hg := grown_set W b i (.string t)
  have ho : (Value.slice (some ⟨b, 0, none⟩) n cs).ownBlock = some b := rfl
  have hrow : ∀ k, some b = some k → (Value.slice (some ⟨b, 0, none⟩) n cs).ownBlock = some k := fun k e => ho.trans e
  have tt : ∀ {z : Nat} {ty : TypeId} {cs : Array Value}, Blk W z ty cs → 9 ≠ ty → Blk (W.setCell ⟨b, i, none⟩ (.string t)) z ty cs := fun hb hs => hb.grown hg (fun e => own_blk_ne h.rs hb hs (by rw [e]; exact ho))
  exact ⟨h.h.row h.rs hg hrow h.a3 h.a4 h.a5 h.a2, tt h.bv (by decide), tt h.bx (by decide), tt h.br (by decide), srow_row h.rv hg (fun k e => h.a6 k (hrow k e)), h5, h.a1, h.a2, h.a3, h.a4, h.a5, h.a6, h.bl.setCell (p := ⟨b, i, none⟩) h1 _, h.lo, fun b' ty cs k1 k2 k3 => tt (h.kt b' ty cs k1 k2 k3) k3, h.hk⟩
/-- the result is laid into its box -/
theorem WMem.setR (h : WMem w B g k n P1 P2 sv p key said0 x Q1 Q2 dv q s drawn A c v As cs said W) :
    HouseIn ((W.setCell ⟨k + 1 + 1, 0, none⟩ (.slice A n c)).setCell ⟨k + 1 + 1, 1, none⟩ (.string v.root)) B g P1 P2 Q1 Q2 s key sv dv p q said0 drawn ∧ SRow ((W.setCell ⟨k + 1 + 1, 0, none⟩ (.slice A n c)).setCell ⟨k + 1 + 1, 1, none⟩ (.string v.root)) B (.slice A n c) v.blocks ∧
    SRow ((W.setCell ⟨k + 1 + 1, 0, none⟩ (.slice A n c)).setCell ⟨k + 1 + 1, 1, none⟩ (.string v.root)) B (.slice As n cs) said ∧ Below B w ((W.setCell ⟨k + 1 + 1, 0, none⟩ (.slice A n c)).setCell ⟨k + 1 + 1, 1, none⟩ (.string v.root)) ∧
    Blk ((W.setCell ⟨k + 1 + 1, 0, none⟩ (.slice A n c)).setCell ⟨k + 1 + 1, 1, none⟩ (.string v.root)) (k + 1 + 1) 36 #[.slice A n c, .string v.root] ∧ KeptT w ((W.setCell ⟨k + 1 + 1, 0, none⟩ (.slice A n c)).setCell ⟨k + 1 + 1, 1, none⟩ (.string v.root)) := by
  have kb := h.br
  have k1 := kb.set_ 0 (.slice A n c)
  have hl : B ≤ k + 1 + 1 := by have := h.lo.2; omega
  exact ⟨(h.h.far kb (by decide) (by decide) (by decide) 0 _).far k1 (by decide) (by decide) (by decide) 1 _, orow_far (orow_far h.rv kb (by decide) 0 _) k1 (by decide) 1 _, orow_far (orow_far h.rs kb (by decide) 0 _) k1 (by decide) 1 _, (h.bl.setCell (p := ⟨k + 1 + 1, 0, none⟩) hl _).setCell (p := ⟨k + 1 + 1, 1, none⟩) hl _, k1.set_ 1 _, fun b ty cs h1 h2 h3 => by
    have hne : b ≠ k + 1 + 1 := by have := h1.lt; have := h.hk; omega
    exact ((h.kt b ty cs h1 h2 h3).far (p := ⟨k + 1 + 1, 0, none⟩) hne _).far (p := ⟨k + 1 + 1, 1, none⟩) hne _⟩
/-- .. where the loop begins -/
theorem wmem_start {w3 : World} (h : HouseIn w3 B g P1 P2 Q1 Q2 s key sv dv p q said0 drawn ∧ Blk w3 k 36 #[.slice A n c, .string v.root] ∧ Blk w3 (k + 1) 32 (stepC x) ∧ Blk w3 (k + 1 + 1) 36 #[.slice none 0 0, .string ⟨#[]⟩] ∧ SRow w3 B (.slice A n c) v.blocks ∧ Below w.heap.size w w3) (hd : Away dv (.slice A n c)) (hl : B ≤ g ∧ B ≤ k) (hk : w.heap.size ≤ k) (hBw : B ≤ w.heap.size)
    (hr : SRow W w3.heap.size (.slice As n cs) ([] ++ said0)) (hb : Below w3.heap.size w3 W) : WMem w B g k n P1 P2 sv p key said0 x Q1 Q2 dv q s drawn A c v As cs said0 W := by
  obtain ⟨h1, h2, h3, h4, h5, h6⟩ := h
  have hB : B ≤ w3.heap.size := Nat.le_trans hl.1 (Nat.le_of_lt h1.b.lt)
  have hr' : SRow W B (.slice As n cs) said0 := orow_base hr hB
  exact ⟨h1.on_ hb, h2.below hb h2.lt, h3.below hb h3.lt, h4.below hb h4.lt, orow_below h5 hb (Nat.le_refl _), hr', hd, away_of_gt (srow_ge hr) (srow_lt h1.d), away_of_gt (srow_ge hr) (plat_lt h1.p), away_of_gt (srow_ge hr) (plat_lt h1.q), away_of_gt (srow_ge hr) (srow_lt h1.s), away_of_gt (srow_ge hr) (srow_lt h5), (h6.mono hBw).trans (hb.mono hB), hl, fun b t cs h1 _ _ => (h1.below h6 h1.lt).below hb (h1.below h6 h1.lt).lt, hk⟩
end
end Go.Proofs.YtpkomloblhbkiaaGreatDoor
