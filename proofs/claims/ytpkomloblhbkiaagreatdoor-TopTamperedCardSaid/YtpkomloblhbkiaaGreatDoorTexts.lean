/- keyholeref01.Texts, Own: rows of texts. -/
import Derived.Test.YtpkomloblhbkiaaGreatDoorWideReg
import Derived.Test.YtpkomloblhbkiaaGreatDoorPlatK
import Derived.Test.YtpkomloblhbkiaaGreatDoorTwinA
import Derived.Test.YtpkomloblhbkiaaGreatDoorTreA
set_option linter.unusedVariables false
set_option linter.unusedSimpArgs false
/- vault.Store: what its loop keeps. -/
namespace Go.Proofs.YtpkomloblhbkiaaGreatDoor
open Go.RowKit
def normD (n : Nat) (D : Int) : Nat := if D < 0 ∨ ((n + 5 : Nat) : Int) < D then n + 5 else D.toNat
section
variable {W W' : World} {row : Option Nat}
/-- an object that is no cells is turned: cells stay -/
theorem own_keep {base sz n : Nat} {e : TypeId} {v : Value} {xs : List Value} (h : W.ownsRow base e sz v n xs) (hg : W.grownBy W' row) (hr : ∀ r, row = some r → ∃ o : Obj, W.heap[r]? = some o ∧ o.isCells = false) : W'.ownsRow base e sz v n xs := by
  refine ⟨h.1, ?_⟩
  rcases h.2 with hn | ⟨g, cap, cur, rfl, hb', hh, rest⟩
  · exact .inl hn
  · have hlt := (Array.getElem?_eq_some_iff.1 hh).1
    refine .inr ⟨g, cap, cur, rfl, hb', (hg.block g hlt fun e => ?_).trans hh, rest⟩
    obtain ⟨o, ho, hc⟩ := hr g e.symm
    rw [hh] at ho
    injection ho with ho
    subst ho
    simp [Obj.isCells] at hc
theorem blk_keep {g : Nat} {t : TypeId} {cs : Array Value} (h : Blk W g t cs) (hg : W.grownBy W' row) (hr : ∀ r, row = some r → ∃ o : Obj, W.heap[r]? = some o ∧ o.isCells = false) : Blk W' g t cs := by
  refine h.grown hg fun e => ?_
  obtain ⟨o, ho, hc⟩ := hr g e.symm
  unfold Blk at h
  rw [h] at ho
  injection ho with ho
  subst ho
  simp [Obj.isCells] at hc
theorem PlatOut.keep {B : Nat} {v : Value} {p : Plat} (h : PlatOut W B v p) (hg : W.grownBy W' row) (hr : ∀ r, row = some r → ∃ o : Obj, W.heap[r]? = some o ∧ o.isCells = false) : PlatOut W' B v p := by
  obtain ⟨A, c, A', c', e, q1, q2⟩ := h
  exact ⟨A, c, A', c', e, own_keep q1 hg hr, own_keep q2 hg hr⟩
theorem PlatOut.on_ {B : Nat} {v : Value} {p : Plat} (h : PlatOut W B v p) (hb : Below W.heap.size W W') : PlatOut W' B v p := by
  obtain ⟨A, c, A', c', e, q1, q2⟩ := h
  exact ⟨A, c, A', c', e, own_below q1 hb (Nat.le_refl _), own_below q2 hb (Nat.le_refl _)⟩
end
/-- the blocks of S stay -/
def KeptAt (S : Nat → Prop) (A B : World) : Prop := A.heap.size ≤ B.heap.size ∧ ∀ k, S k → k < A.heap.size → B.heap[k]? = A.heap[k]?
section
variable {S : Nat → Prop} {A B C : World}
theorem KeptAt.refl (A : World) : KeptAt S A A := ⟨Nat.le_refl _, fun _ _ _ => rfl⟩
theorem KeptAt.trans (h : KeptAt S A B) (k : KeptAt S B C) : KeptAt S A C := ⟨Nat.le_trans h.1 k.1, fun i hi hl => (k.2 i hi (Nat.lt_of_lt_of_le hl h.1)).trans (h.2 i hi hl)⟩
theorem KeptAt.of_below (h : Below A.heap.size A B) : KeptAt S A B := ⟨h.size, fun k _ hl => h.block k hl⟩
theorem KeptAt.put {l : Nat} (hl : ¬ S l) (o : Obj) (A : World) : KeptAt S A (A.putObj l o) :=
  ⟨Nat.le_of_eq (by simp [World.putObj]), fun k hk _ => World.putObj_heap_other (fun e => hl (e ▸ hk))⟩
theorem KeptAt.set {g : Nat} (h : KeptAt S A B) (hg : ¬ S g) (o : Nat) (u : Value) : KeptAt S A (B.setCell ⟨g, o, none⟩ u) :=
  ⟨Nat.le_trans h.1 (Nat.le_of_eq (by simp [World.setCell])), fun k hk hl => (Below.heap_setCell B ⟨g, o, none⟩ u k (fun e => hg (by have e : k = g := e; rw [← e]; exact hk))).trans (h.2 k hk hl)⟩
theorem KeptAt.blk {g : Nat} {t : TypeId} {cs : Array Value} (h : KeptAt S A B) (hg : S g) (hb : Blk A g t cs) : Blk B g t cs := (h.2 g hg hb.lt).trans hb
end
/-- the boxes of Store: the platter, the volume, the number of deeds, the three results, the chest, the errno -/
structure StoB (g x1 : Nat) (P V : Array Value) (d : Int) (R C : Array Value) (e r : Int) (W : World) : Prop where
  p : Blk W g 42 P
  v : Blk W (g + 1) 36 V
  d : Blk W (g + 1 + 1) 3 #[.int .i64 d]
  r0 : Blk W (g + 1 + 1 + 1) 42 R
  r1 : Blk W (g + 1 + 1 + 1 + 1) 4 #[.bool false]
  r2 : Blk W (g + 1 + 1 + 1 + 1 + 1) 37 #[.int .i64 r]
  c : Blk W x1 71 C
  e : Blk W (x1 + 1) 37 #[.int .i64 e]
section
variable {g x1 : Nat} {P V : Array Value} {d : Int} {R C : Array Value} {e r : Int} {W W' : World} {row : Option Nat}
theorem StoB.on_ (h : StoB g x1 P V d R C e r W) (hb : Below W.heap.size W W') : StoB g x1 P V d R C e r W' :=
  ⟨h.p.below hb h.p.lt, h.v.below hb h.v.lt, h.d.below hb h.d.lt, h.r0.below hb h.r0.lt, h.r1.below hb h.r1.lt, h.r2.below hb h.r2.lt, h.c.below hb h.c.lt, h.e.below hb h.e.lt⟩
theorem StoB.keep (h : StoB g x1 P V d R C e r W) (hg : W.grownBy W' row) (hr : ∀ r, row = some r → ∃ o : Obj, W.heap[r]? = some o ∧ o.isCells = false) : StoB g x1 P V d R C e r W' :=
  ⟨blk_keep h.p hg hr, blk_keep h.v hg hr, blk_keep h.d hg hr, blk_keep h.r0 hg hr, blk_keep h.r1 hg hr, blk_keep h.r2 hg hr, blk_keep h.c hg hr, blk_keep h.e hg hr⟩
theorem StoB.set_d (h : StoB g x1 P V d R C e r W) (hx : g + 1 + 1 + 1 + 1 + 1 < x1) (y : Int) : StoB g x1 P V y R C e r (W.setCell ⟨g + 1 + 1, 0, none⟩ (.int .i64 y)) := by
  have k : ∀ a, a ≠ g + 1 + 1 → a ≠ (⟨g + 1 + 1, 0, none⟩ : Addr).block := fun a h => h
  exact ⟨h.p.far (k _ (by omega)) _, h.v.far (k _ (by omega)) _, h.d.set_ 0 _, h.r0.far (k _ (by omega)) _, h.r1.far (k _ (by omega)) _, h.r2.far (k _ (by omega)) _, h.c.far (k _ (by omega)) _, h.e.far (k _ (by omega)) _⟩
theorem StoB.set_e (h : StoB g x1 P V d R C e r W) (hx : g + 1 + 1 + 1 + 1 + 1 < x1) (y : Int) : StoB g x1 P V d R C y r (W.setCell ⟨x1 + 1, 0, none⟩ (.int .i64 y)) := by
  have k : ∀ a, a ≠ x1 + 1 → a ≠ (⟨x1 + 1, 0, none⟩ : Addr).block := fun a h => h
  exact ⟨h.p.far (k _ (by omega)) _, h.v.far (k _ (by omega)) _, h.d.far (k _ (by omega)) _, h.r0.far (k _ (by omega)) _, h.r1.far (k _ (by omega)) _, h.r2.far (k _ (by omega)) _, h.c.far (k _ (by omega)) _, h.e.set_ 0 _⟩
theorem StoB.set_p {a b : Value} (h : StoB g x1 #[a, b] V d R C e r W) (hx : g + 1 + 1 + 1 + 1 + 1 < x1) (y z : Value) : StoB g x1 #[y, z] V d R C e r ((W.setCell ⟨g, 0, none⟩ y).setCell ⟨g, 1, none⟩ z) := by
  have k : ∀ a o, a ≠ g → a ≠ (⟨g, o, none⟩ : Addr).block := fun a o h => h
  exact ⟨(h.p.set_ 0 _).set_ 1 _, (h.v.far (k _ 0 (by omega)) _).far (k _ 1 (by omega)) _, (h.d.far (k _ 0 (by omega)) _).far (k _ 1 (by omega)) _, (h.r0.far (k _ 0 (by omega)) _).far (k _ 1 (by omega)) _, (h.r1.far (k _ 0 (by omega)) _).far (k _ 1 (by omega)) _, (h.r2.far (k _ 0 (by omega)) _).far (k _ 1 (by omega)) _, (h.c.far (k _ 0 (by omega)) _).far (k _ 1 (by omega)) _, (h.e.far (k _ 0 (by omega)) _).far (k _ 1 (by omega)) _⟩
theorem StoB.set_r {a b : Value} (h : StoB g x1 P V d #[a, b] C e r W) (hx : g + 1 + 1 + 1 + 1 + 1 < x1) (y z : Value) : StoB g x1 P V d #[y, z] C e r ((W.setCell ⟨g + 1 + 1 + 1, 0, none⟩ y).setCell ⟨g + 1 + 1 + 1, 1, none⟩ z) := by
  have k : ∀ a o, a ≠ g + 1 + 1 + 1 → a ≠ (⟨g + 1 + 1 + 1, o, none⟩ : Addr).block := fun a o h => h
  exact ⟨(h.p.far (k _ 0 (by omega)) _).far (k _ 1 (by omega)) _, (h.v.far (k _ 0 (by omega)) _).far (k _ 1 (by omega)) _, (h.d.far (k _ 0 (by omega)) _).far (k _ 1 (by omega)) _, (h.r0.set_ 0 _).set_ 1 _, (h.r1.far (k _ 0 (by omega)) _).far (k _ 1 (by omega)) _, (h.r2.far (k _ 0 (by omega)) _).far (k _ 1 (by omega)) _, (h.c.far (k _ 0 (by omega)) _).far (k _ 1 (by omega)) _, (h.e.far (k _ 0 (by omega)) _).far (k _ 1 (by omega)) _⟩
theorem StoB.set_r2 (h : StoB g x1 P V d R C e r W) (hx : g + 1 + 1 + 1 + 1 + 1 < x1) (y : Int) : StoB g x1 P V d R C e y (W.setCell ⟨g + 1 + 1 + 1 + 1 + 1, 0, none⟩ (.int .i64 y)) := by
  have k : ∀ a, a ≠ g + 1 + 1 + 1 + 1 + 1 → a ≠ (⟨g + 1 + 1 + 1 + 1 + 1, 0, none⟩ : Addr).block := fun a h => h
  exact ⟨h.p.far (k _ (by omega)) _, h.v.far (k _ (by omega)) _, h.d.far (k _ (by omega)) _, h.r0.far (k _ (by omega)) _, h.r1.far (k _ (by omega)) _, h.r2.set_ 0 _, h.c.far (k _ (by omega)) _, h.e.far (k _ (by omega)) _⟩
theorem StoB.set_r1 (h : StoB g x1 P V d R C e r W) (hx : g + 1 + 1 + 1 + 1 + 1 < x1) : StoB g x1 P V d R C e r (W.setCell ⟨g + 1 + 1 + 1 + 1, 0, none⟩ (.bool false)) := by
  have k : ∀ a, a ≠ g + 1 + 1 + 1 + 1 → a ≠ (⟨g + 1 + 1 + 1 + 1, 0, none⟩ : Addr).block := fun a h => h
  exact ⟨h.p.far (k _ (by omega)) _, h.v.far (k _ (by omega)) _, h.d.far (k _ (by omega)) _, h.r0.far (k _ (by omega)) _, h.r1.set_ 0 _, h.r2.far (k _ (by omega)) _, h.c.far (k _ (by omega)) _, h.e.far (k _ (by omega)) _⟩
end
/-- what the loop of Store keeps: q is the platter, d the number -/
def StoI (w : World) (x1 z : Nat) (V C : Array Value) (q : Plat) (d : Int) (W : World) : Prop :=
  ∃ P, PlatOut W w.heap.size (.agg P) q ∧ StoB w.heap.size x1 P V d #[.slice none 0 0, .slice none 0 0] C 0 0 W ∧ Below w.heap.size w W ∧ z ≤ W.heap.size
/-- .. where it is left: q lies in the first result's box -/
def StoX (w : World) (x1 z : Nat) (V C : Array Value) (q : Plat) (W : World) : Prop :=
  ∃ P d, PlatOut W w.heap.size (.agg P) q ∧ StoB w.heap.size x1 P V d P C 0 0 W ∧ Below w.heap.size w W ∧ z ≤ W.heap.size
section
variable {w : World} {x1 z : Nat} {V C : Array Value} {q : Plat} {d : Int} {W W' : World} {row : Option Nat}
theorem StoI.on_ (h : StoI w x1 z V C q d W) (hb : Below W.heap.size W W') : StoI w x1 z V C q d W' := by
  obtain ⟨P, h1, h2, h3, h4⟩ := h
  exact ⟨P, h1.on_ hb, h2.on_ hb, h3.trans (hb.mono h3.size), Nat.le_trans h4 hb.size⟩
theorem StoX.on_ (h : StoX w x1 z V C q W) (hb : Below W.heap.size W W') : StoX w x1 z V C q W' := by
  obtain ⟨P, d, h1, h2, h3, h4⟩ := h
  exact ⟨P, d, h1.on_ hb, h2.on_ hb, h3.trans (hb.mono h3.size), Nat.le_trans h4 hb.size⟩
theorem StoI.keep (h : StoI w x1 z V C q d W) (hz : w.heap.size ≤ z) (hg : W.grownBy W' row) (hr : ∀ r, row = some r → z ≤ r ∧ ∃ o : Obj, W.heap[r]? = some o ∧ o.isCells = false) : StoI w x1 z V C q d W' := by
  obtain ⟨P, h1, h2, h3, h4⟩ := h
  exact ⟨P, h1.keep hg fun r e => (hr r e).2, h2.keep hg fun r e => (hr r e).2, h3.grown hg h3.size fun k e => Nat.le_trans hz (hr k e).1, Nat.le_trans h4 hg.size⟩
theorem StoX.keep (h : StoX w x1 z V C q W) (hz : w.heap.size ≤ z) (hg : W.grownBy W' row) (hr : ∀ r, row = some r → z ≤ r ∧ ∃ o : Obj, W.heap[r]? = some o ∧ o.isCells = false) : StoX w x1 z V C q W' := by
  obtain ⟨P, d, h1, h2, h3, h4⟩ := h
  exact ⟨P, d, h1.keep hg fun r e => (hr r e).2, h2.keep hg fun r e => (hr r e).2, h3.grown hg h3.size fun k e => Nat.le_trans hz (hr k e).1, Nat.le_trans h4 hg.size⟩
end
/-- nothing is appended to nothing -/
theorem append_none {P : Program} {w : World} (t ty e : TypeId) (i : TypeInfo) (size c : Nat) (A : Option Addr) (ht : P.underlying t = some (.slice e)) (hi : P.info? e = some i) : (Builtin.append_ #[t, t] ty #[.slice none 0 0, .slice A 0 c]).run P w = .ok (.slice none 0 0) w := by
  cases A <;> simp [Builtin.append_, run_underlying ht, sizeOf, typeInfo, hi, Builtin.lenOf, Builtin.firstCells, storeCells, loadCells, loadCellsFrom]
theorem yields_append_none {P : Program} {ops : Array Oper} {S : World → Prop} {o : Oper} {a : Act} (s x : Operand) (t e : TypeId) (i : TypeInfo) (A : Option Addr) (c : Nat) (ho : o.op = .call { callee := .builtin .append, args := #[s, x], argTypes := #[t, t] })
    (hgd : Region.wanted o (yielded ops a.tmps) = true) (hs : a.eval s = .slice none 0 0) (hx : a.eval x = .slice A 0 c) (ht : P.underlying t = some (.slice e)) (hi : P.info? e = some i) : YieldsIf P ops S o (.slice none 0 0) a := by
  refine Or.inl ⟨hgd, fun w hw => ?_⟩
  unfold execOp
  simp only [ho, resolve, invoke, builtin, Sem.run_bind, Sem.run_pure, Result.andThen_ok, List.map_toArray, List.map_cons, List.map_nil, hs, hx, append_none (P := P) t o.type e i i.size c A ht hi]
theorem plat_own_bare {W : World} {p : Plat} {base B nS c : Nat} {A : Option Addr} (hl1 : p.sectors.length = nS) (hl2 : p.cache.length = 0) (h : W.ownsRow base 9 1 (.slice A nS c) nS (flat encS p.sectors)) (hb : B ≤ base) : PlatOut W B (.agg #[.slice A nS c, .slice none 0 0]) p := by
  obtain ⟨ps, pc⟩ := p
  dsimp only at *
  obtain rfl : pc = [] := List.eq_nil_of_length_eq_zero hl2
  subst hl1
  exact ⟨A, c, none, 0, rfl, own_base h hb, World.ownsRow_nil _ _ _ _⟩
def deedX (cb : Nat) (x : Option (Nat × Nat)) : Value := match x with
  | some (ib, sb) => .func (.func 92) #[] #[.pointer (some ⟨cb, 0, none⟩), .pointer (some ⟨ib, 0, none⟩), .pointer (some ⟨sb, 0, none⟩)]
  | none => .func (.func 86) #[] #[]
theorem deedV_eq (cb : Nat) (x : Option (Nat × Nat)) : deedV cb x = #[deedX cb x] := by
  cases x <;> rfl
theorem deeds_seq {S : Nat → Prop} {w W0 : World} {n c cb vb : Nat} {B : Option Addr} {L : List ByteArray} {root : ByteArray} (m : Nat) (hm : 1 ≤ m) (hvb : Blk W0 vb 36 #[.slice B n c, .string root]) (hSv : S vb) (hSk : ∀ k, k < w.heap.size → S k)
    (hL : SlR encS 1 w w.heap.size B n L) (hB : Below w.heap.size w W0) (hn1 : 1 ≤ n) (hn : n ≤ 64) :
    SeqStopsN Fence.wide m Tryz.prog 91 #[.pointer (some ⟨vb, 0, none⟩), .pointer (some ⟨cb, 0, none⟩)] (fun x => #[deedX cb x]) (fun ys => ys.length = n + 1) (deedNx L W0.heap.size) (KeptAt S) W0 := by
  intro l J Jx W hW hJ hJx hY h0
  refine deeds1_in Fence.wide m trivial rfl hm l vb cb W0.heap.size L B n c root J Jx (KeptAt S) KeptAt.refl (fun _ _ _ => KeptAt.trans) (fun A B h => KeptAt.of_below h) (fun A B h hb => Nat.le_trans hb h.1) hJ hJx (fun pre x W1 h1 h2 => by rw [deedV_eq]; exact hY pre x W1 h1 h2) W
    (fun W' hk => hk.blk hSv (hvb.below hW hvb.lt)) (fun W' hk i s hs => ?_) hL.1 (by omega) hW.size h0
  rcases hL.2 with h | ⟨b, off, rfl, hb, hc⟩
  · omega
  · refine ⟨b, off, rfl, ?_⟩
    have hb0 : b < W0.heap.size := Nat.lt_of_lt_of_le hb hB.size
    have h1 := hc i s hs 0 _ rfl
    have h2 : W'.heap[b]? = w.heap[b]? := ((hk.2 b (hSk b hb) (Nat.lt_of_lt_of_le hb0 hW.size)).trans (hW.block b hb0)).trans (hB.block b hb)
    have h3 : W'.cell? ⟨b, off + i * 1 + 0, none⟩ = w.cell? ⟨b, off + i * 1 + 0, none⟩ := World.cell?_of_block (w := w) h2
    have h4 := h3.trans h1
    simpa using h4
theorem deedNx_from (L : List ByteArray) (base B : Nat) (pre : List (Option (Nat × Nat))) (x : Option (Nat × Nat)) : OwnFrom B (fun (_ : Unit) W => deedNx L base pre x W) := by
  intro s W W' row hs hg hr
  cases x with
  | none => exact hs
  | some q =>
    obtain ⟨ib, sb⟩ := q
    obtain ⟨t, h1, h2, h3, h4, h5⟩ := hs
    exact ⟨t, h1, h2, h3, blk_keep h4 hg fun r e => (hr r e).2, blk_keep h5 hg fun r e => (hr r e).2⟩
/-- what the loop of Store keeps behind the first deeds -/
def StoJ (w : World) (x1 z : Nat) (V C : Array Value) (p : Plat) (n b : Nat) (L : List ByteArray) (N : Nat) (pre : List (Option (Nat × Nat))) (W : World) : Prop :=
  pre.length ≤ n + 1 ∧ pre.length ≤ N ∧ StoI w x1 z V C (deedTo p n b L pre.length) ((N - pre.length : Nat) : Int) W
def StoY (w : World) (x1 z : Nat) (V C : Array Value) (p : Plat) (n b : Nat) (L : List ByteArray) (N : Nat) (W : World) : Prop :=
  N ≤ n ∧ StoX w x1 z V C (deedTo p n b L N) W
theorem StoJ.from_ {w : World} {x1 z : Nat} {V C : Array Value} {p : Plat} {n b : Nat} {L : List ByteArray} {N : Nat} (hz : w.heap.size ≤ z) : OwnFrom z (StoJ w x1 z V C p n b L N) :=
  fun s W W' row hs hg hr => ⟨hs.1, hs.2.1, hs.2.2.keep hz hg hr⟩
theorem StoY.from_ {w : World} {x1 z : Nat} {V C : Array Value} {p : Plat} {n b : Nat} {L : List ByteArray} {N : Nat} (hz : w.heap.size ≤ z) : OwnFrom z (fun (_ : List (Option (Nat × Nat))) => StoY w x1 z V C p n b L N) :=
  fun s W W' row hs hg hr => ⟨hs.1, hs.2.keep hz hg hr⟩
theorem deedTo_some {p : Plat} {n b k : Nat} {L : List ByteArray} {s : ByteArray} (hk : k < n) (hs : L[k]? = some s) : deedTo p n b L (k + 1) = (writeF (deedTo p n b L k) (sectorN n b k : Nat) s).1 := by
  unfold deedTo
  rw [if_pos (by omega), if_pos (by omega), laidTo, List.getD_eq_getElem?_getD, hs]
  rfl
theorem deedTo_sync {p : Plat} {n b : Nat} {L : List ByteArray} : deedTo p n b L (n + 1) = (syncF (deedTo p n b L n)).1 := by
  unfold deedTo
  rw [if_neg (by omega), if_pos (Nat.le_refl _)]
theorem deeds_write {p : Plat} {n b k : Nat} {L : List ByteArray} {s : ByteArray} (h : DeedsOk p n b L) (hk : k < n) (hs : L[k]? = some s) : (writeF (deedTo p n b L k) (sectorN n b k : Nat) s).2 = 0 := by
  have := h.1 k hk
  rw [List.getD_eq_getElem?_getD, hs] at this
  unfold deedTo
  rw [if_pos (by omega)]
  exact this
theorem deeds_sync {p : Plat} {n b : Nat} {L : List ByteArray} (h : DeedsOk p n b L) : (syncF (deedTo p n b L n)).2 = 0 := by
  unfold deedTo
  rw [if_pos (Nat.le_refl _)]
  exact h.2
section
variable {w W : World} {x1 : Nat} {pa pb y z ra rb : Value} {V R C : Array Value} {d : Int} {q : Plat}
theorem sto_turn (hs : StoB w.heap.size x1 #[pa, pb] V d R C 0 0 W) (hx : w.heap.size + 1 + 1 + 1 + 1 + 1 < x1) (hO : PlatOut W w.heap.size (.agg #[y, z]) q) (hB : Below w.heap.size w W) (d' : Int) :
    StoB w.heap.size x1 #[y, z] V d' R C 0 0 ((((W.setCell ⟨w.heap.size, 0, none⟩ y).setCell ⟨w.heap.size, 1, none⟩ z).setCell ⟨x1 + 1, 0, none⟩ (.int .i64 0)).setCell ⟨w.heap.size + 1 + 1, 0, none⟩ (.int .i64 d')) ∧
    PlatOut ((((W.setCell ⟨w.heap.size, 0, none⟩ y).setCell ⟨w.heap.size, 1, none⟩ z).setCell ⟨x1 + 1, 0, none⟩ (.int .i64 0)).setCell ⟨w.heap.size + 1 + 1, 0, none⟩ (.int .i64 d')) w.heap.size (.agg #[y, z]) q ∧
    Below w.heap.size w ((((W.setCell ⟨w.heap.size, 0, none⟩ y).setCell ⟨w.heap.size, 1, none⟩ z).setCell ⟨x1 + 1, 0, none⟩ (.int .i64 0)).setCell ⟨w.heap.size + 1 + 1, 0, none⟩ (.int .i64 d')) := by
  have h1 := hs.set_p hx y z
  have h2 := h1.set_e hx 0
  have h3 := h2.set_d hx d'
  have o1 := (hO.far hs.p (by decide) (by decide) 0 y).far (hs.p.set_ 0 y) (by decide) (by decide) 1 z
  have o2 := o1.far h1.e (by decide) (by decide) 0 (.int .i64 0)
  have o3 := o2.far h2.d (by decide) (by decide) 0 (.int .i64 d')
  exact ⟨h3, o3, ((((hB.setCell (p := ⟨w.heap.size, 0, none⟩) (Nat.le_refl _) _).setCell (p := ⟨w.heap.size, 1, none⟩) (Nat.le_refl _) _).setCell (p := ⟨x1 + 1, 0, none⟩) (by show w.heap.size ≤ x1 + 1; omega) _).setCell (p := ⟨w.heap.size + 1 + 1, 0, none⟩) (by show w.heap.size ≤ w.heap.size + 1 + 1; omega) _)⟩
theorem sto_exit (hs : StoB w.heap.size x1 #[y, z] V d #[ra, rb] C 0 0 W) (hx : w.heap.size + 1 + 1 + 1 + 1 + 1 < x1) (hO : PlatOut W w.heap.size (.agg #[y, z]) q) (hB : Below w.heap.size w W) :
    StoB w.heap.size x1 #[y, z] V d #[y, z] C 0 0 ((((W.setCell ⟨w.heap.size + 1 + 1 + 1, 0, none⟩ y).setCell ⟨w.heap.size + 1 + 1 + 1, 1, none⟩ z).setCell ⟨w.heap.size + 1 + 1 + 1 + 1, 0, none⟩ (.bool false)).setCell ⟨w.heap.size + 1 + 1 + 1 + 1 + 1, 0, none⟩ (.int .i64 0)) ∧
    PlatOut ((((W.setCell ⟨w.heap.size + 1 + 1 + 1, 0, none⟩ y).setCell ⟨w.heap.size + 1 + 1 + 1, 1, none⟩ z).setCell ⟨w.heap.size + 1 + 1 + 1 + 1, 0, none⟩ (.bool false)).setCell ⟨w.heap.size + 1 + 1 + 1 + 1 + 1, 0, none⟩ (.int .i64 0)) w.heap.size (.agg #[y, z]) q ∧
    Below w.heap.size w ((((W.setCell ⟨w.heap.size + 1 + 1 + 1, 0, none⟩ y).setCell ⟨w.heap.size + 1 + 1 + 1, 1, none⟩ z).setCell ⟨w.heap.size + 1 + 1 + 1 + 1, 0, none⟩ (.bool false)).setCell ⟨w.heap.size + 1 + 1 + 1 + 1 + 1, 0, none⟩ (.int .i64 0)) := by
  have h1 := hs.set_r hx y z
  have h2 := h1.set_r1 hx
  have h3 := h2.set_r2 hx 0
  have o1 := (hO.far hs.r0 (by decide) (by decide) 0 y).far (hs.r0.set_ 0 y) (by decide) (by decide) 1 z
  have o2 := o1.far h1.r1 (by decide) (by decide) 0 (.bool false)
  have o3 := o2.far h2.r2 (by decide) (by decide) 0 (.int .i64 0)
  exact ⟨h3, o3, ((((hB.setCell (p := ⟨w.heap.size + 1 + 1 + 1, 0, none⟩) (by show w.heap.size ≤ w.heap.size + 1 + 1 + 1; omega) _).setCell (p := ⟨w.heap.size + 1 + 1 + 1, 1, none⟩) (by show w.heap.size ≤ w.heap.size + 1 + 1 + 1; omega) _).setCell (p := ⟨w.heap.size + 1 + 1 + 1 + 1, 0, none⟩) (by show w.heap.size ≤ w.heap.size + 1 + 1 + 1 + 1; omega) _).setCell (p := ⟨w.heap.size + 1 + 1 + 1 + 1 + 1, 0, none⟩) (by show w.heap.size ≤ w.heap.size + 1 + 1 + 1 + 1 + 1; omega) _)⟩
end
section
variable {w W : World} {x1 : Nat} {P y z ra rb : Value} {V P0 C : Array Value} {d : Int} {q : Plat}
theorem sto_end (hs : StoB w.heap.size x1 P0 V d #[ra, rb] C 0 0 W) (hO : PlatOut W w.heap.size (.agg #[y, z]) q) (hB : Below w.heap.size w W) (dn : Bool) (er : Int) :
    (Blk ((((W.setCell ⟨w.heap.size + 1 + 1 + 1, 0, none⟩ y).setCell ⟨w.heap.size + 1 + 1 + 1, 1, none⟩ z).setCell ⟨w.heap.size + 1 + 1 + 1 + 1, 0, none⟩ (.bool dn)).setCell ⟨w.heap.size + 1 + 1 + 1 + 1 + 1, 0, none⟩ (.int .i64 er)) (w.heap.size + 1 + 1 + 1) 42 #[y, z] ∧
    Blk ((((W.setCell ⟨w.heap.size + 1 + 1 + 1, 0, none⟩ y).setCell ⟨w.heap.size + 1 + 1 + 1, 1, none⟩ z).setCell ⟨w.heap.size + 1 + 1 + 1 + 1, 0, none⟩ (.bool dn)).setCell ⟨w.heap.size + 1 + 1 + 1 + 1 + 1, 0, none⟩ (.int .i64 er)) (w.heap.size + 1 + 1 + 1 + 1) 4 #[.bool dn] ∧
    Blk ((((W.setCell ⟨w.heap.size + 1 + 1 + 1, 0, none⟩ y).setCell ⟨w.heap.size + 1 + 1 + 1, 1, none⟩ z).setCell ⟨w.heap.size + 1 + 1 + 1 + 1, 0, none⟩ (.bool dn)).setCell ⟨w.heap.size + 1 + 1 + 1 + 1 + 1, 0, none⟩ (.int .i64 er)) (w.heap.size + 1 + 1 + 1 + 1 + 1) 37 #[.int .i64 er]) ∧
    PlatOut ((((W.setCell ⟨w.heap.size + 1 + 1 + 1, 0, none⟩ y).setCell ⟨w.heap.size + 1 + 1 + 1, 1, none⟩ z).setCell ⟨w.heap.size + 1 + 1 + 1 + 1, 0, none⟩ (.bool dn)).setCell ⟨w.heap.size + 1 + 1 + 1 + 1 + 1, 0, none⟩ (.int .i64 er)) w.heap.size (.agg #[y, z]) q ∧
    Below w.heap.size w ((((W.setCell ⟨w.heap.size + 1 + 1 + 1, 0, none⟩ y).setCell ⟨w.heap.size + 1 + 1 + 1, 1, none⟩ z).setCell ⟨w.heap.size + 1 + 1 + 1 + 1, 0, none⟩ (.bool dn)).setCell ⟨w.heap.size + 1 + 1 + 1 + 1 + 1, 0, none⟩ (.int .i64 er)) := by
  have k0 : w.heap.size + 1 + 1 + 1 + 1 ≠ w.heap.size + 1 + 1 + 1 := by omega
  have k1 : w.heap.size + 1 + 1 + 1 + 1 + 1 ≠ w.heap.size + 1 + 1 + 1 := by omega
  have k2 : w.heap.size + 1 + 1 + 1 ≠ w.heap.size + 1 + 1 + 1 + 1 := by omega
  have k3 : w.heap.size + 1 + 1 + 1 + 1 + 1 ≠ w.heap.size + 1 + 1 + 1 + 1 := by omega
  have k4 : w.heap.size + 1 + 1 + 1 ≠ w.heap.size + 1 + 1 + 1 + 1 + 1 := by omega
  have k5 : w.heap.size + 1 + 1 + 1 + 1 ≠ w.heap.size + 1 + 1 + 1 + 1 + 1 := by omega
  have a0 := (hs.r0.set_ 0 y).set_ 1 z
  have b0 := (hs.r1.far (p := ⟨w.heap.size + 1 + 1 + 1, 0, none⟩) k0 y).far (p := ⟨w.heap.size + 1 + 1 + 1, 1, none⟩) k0 z
  have c0 := (hs.r2.far (p := ⟨w.heap.size + 1 + 1 + 1, 0, none⟩) k1 y).far (p := ⟨w.heap.size + 1 + 1 + 1, 1, none⟩) k1 z
  have o1 := (hO.far hs.r0 (by decide) (by decide) 0 y).far (hs.r0.set_ 0 y) (by decide) (by decide) 1 z
  have o2 := o1.far b0 (by decide) (by decide) 0 (.bool dn)
  have c1 := c0.far (p := ⟨w.heap.size + 1 + 1 + 1 + 1, 0, none⟩) k3 (.bool dn)
  have o3 := o2.far c1 (by decide) (by decide) 0 (.int .i64 er)
  refine ⟨⟨(a0.far (p := ⟨w.heap.size + 1 + 1 + 1 + 1, 0, none⟩) k2 _).far (p := ⟨w.heap.size + 1 + 1 + 1 + 1 + 1, 0, none⟩) k4 _, (b0.set_ 0 _).far (p := ⟨w.heap.size + 1 + 1 + 1 + 1 + 1, 0, none⟩) k5 _, c1.set_ 0 _⟩, o3, ((((hB.setCell (p := ⟨w.heap.size + 1 + 1 + 1, 0, none⟩) (by show w.heap.size ≤ w.heap.size + 1 + 1 + 1; omega) _).setCell (p := ⟨w.heap.size + 1 + 1 + 1, 1, none⟩) (by show w.heap.size ≤ w.heap.size + 1 + 1 + 1; omega) _).setCell (p := ⟨w.heap.size + 1 + 1 + 1 + 1, 0, none⟩) (by show w.heap.size ≤ w.heap.size + 1 + 1 + 1 + 1; omega) _).setCell (p := ⟨w.heap.size + 1 + 1 + 1 + 1 + 1, 0, none⟩) (by show w.heap.size ≤ w.heap.size + 1 + 1 + 1 + 1 + 1; omega) _)⟩
end
end Go.Proofs.YtpkomloblhbkiaaGreatDoor
/- platter.Tamper. -/
namespace Go.Proofs.YtpkomloblhbkiaaGreatDoor
open Go.RowKit
def tamperF (p : Plat) (i : Int) (s : ByteArray) : Plat × Int :=
  if checkP p = true then if hasB p.sectors.length i = true then if s.size ≤ 128 then (⟨p.sectors.set i.toNat s, p.cache⟩, 0) else (noPlat, 2) else (noPlat, 130) else (noPlat, 1)
set_option maxRecDepth 100000 in
theorem tamper1_any (g : Nat) (w : World) : Calls Tryz.prog 27 #[.pointer (some ⟨g, 0, none⟩)] w fun e w' => e = .returned (.func (.func 28) #[.pointer (some ⟨g, 0, none⟩)] #[]) ∧ w = w' := by
  go_enter Tryz.func27, Tryz.ntmps27
  go_wp2
  go_ret
  exact ⟨rfl, rfl⟩
set_option maxRecDepth 100000 in
set_option maxHeartbeats 1000000 in
theorem tone_bad (p : Plat) (i er : Int) (s : ByteArray) (full : Bool) (A A' : Option Addr) (n m c d : Nat) (w : World) (HP : PlatPre w A n A' m p) (hn : p.sectors.length = n)
    (hr : (checkP p = false ∧ er = 1) ∨ (checkP p = true ∧ hasB n i = false ∧ er = 130) ∨ (checkP p = true ∧ hasB n i = true ∧ 128 < s.size ∧ er = 2) ∨ (checkP p = true ∧ hasB n i = true ∧ s.size ≤ 128 ∧ full = true ∧ er = 260)) :
    Calls Tryz.prog 26 #[.agg #[.slice A n c, .slice A' m d], .int .i64 i, .string s, .bool full, .func (.func 27) #[] #[]] w (Out2P w (noPlat, er)) := by
  have HN := Lib.hid hn
  clear hn
  rcases hr with ⟨hc, rfl⟩ | hr
  · go_enter Tryz.func26, Tryz.ntmps26
    go_wp2_with fail
    refine (checkP_any p A A' n m c d _ (HP.step (by go_grown))).mono ?_
    rintro e w1 ⟨rfl, hb1⟩
    rw [hc]
    have hB1 : Below w.heap.size w w1 := Below.trans (by go_grown) (hb1.mono (by simp; omega))
    have hr2 := (Blk.new_at (g := w.heap.size + 1) (by simp) _ _).below hb1 (by simp)
    have s0 := hr2.cells 0 _ rfl
    have s1 := hr2.cells 1 _ rfl
    have fs := hr2.frozen
    simp only [List.getElem_toArray, List.getElem_cons_zero, List.getElem_cons_succ] at s0 s1
    clear hr2 hb1
    go_wp2_with (with_reducible refine end_at ?_)
    refine end_ret (v := .tuple #[.agg #[.slice none 0 0, .slice none 0 0], .int .i64 1]) (by simp [results, Tryz.results26, go_sem, s0, s1]; try rfl) rfl ⟨_, rfl, PlatOut.none_ _ _, by go_grown⟩
  · have hc : checkP p = true := by rcases hr with h | h | h <;> exact h.1
    have hr' : (hasB n i = false ∧ er = 130) ∨ (hasB n i = true ∧ 128 < s.size ∧ er = 2) ∨ (hasB n i = true ∧ s.size ≤ 128 ∧ full = true ∧ er = 260) := by
      rcases hr with ⟨_, h, e⟩ | ⟨_, h, e⟩ | ⟨_, h, e⟩
      · exact .inl ⟨h, e⟩
      · exact .inr (.inl ⟨h, e⟩)
      · exact .inr (.inr ⟨h, e⟩)
    clear hr
    rcases hr' with ⟨hh, rfl⟩ | ⟨hh, hs, rfl⟩ | ⟨hh, hs, rfl, rfl⟩
    all_goals
      go_enter Tryz.func26, Tryz.ntmps26
      go_wp2_with fail
      refine (checkP_any p A A' n m c d _ (HP.step (by go_grown))).mono ?_
      rintro e w1 ⟨rfl, hb1⟩
      rw [hc]
      have hr1 := ((Blk.new w _ _).alloc _).below hb1 (by simp; omega)
      have q0 := hr1.cells 0 _ rfl
      have q1 := hr1.cells 1 _ rfl
      simp only [List.getElem_toArray, List.getElem_cons_zero, List.getElem_cons_succ] at q0 q1
      clear hr1
      go_wp2_with fail
      refine (has_any p n m A A' c d i _ HN.out).mono ?_
      rintro e w2 ⟨rfl, hb2⟩
      rw [HN.out, hh]
      have hb3 := hb1.trans (hb2.mono hb1.size)
      have hB3 : Below w.heap.size w w2 := Below.trans (by go_grown) (hb3.mono (by simp; omega))
      have hr2 := (Blk.new_at (g := w.heap.size + 1) (by simp) _ _).below hb3 (by simp)
      have s0 := hr2.cells 0 _ rfl
      have s1 := hr2.cells 1 _ rfl
      have fs := hr2.frozen
      simp only [List.getElem_toArray, List.getElem_cons_zero, List.getElem_cons_succ] at s0 s1
      clear hr2 hb1 hb2 hb3 q0 q1
      go_wp2_with (with_reducible refine end_at ?_)
      refine end_ret (v := .tuple #[.agg #[.slice none 0 0, .slice none 0 0], .int .i64 _]) (by simp [results, Tryz.results26, go_sem, s0, s1]; try rfl) rfl ⟨_, rfl, PlatOut.none_ _ _, by go_grown⟩
set_option maxRecDepth 100000 in
set_option maxHeartbeats 1000000 in
theorem tone_ok (p : Plat) (k : Nat) (s : ByteArray) (A A' : Option Addr) (n m c d : Nat) (w : World) (HP : PlatPre w A n A' m p) (hn : p.sectors.length = n) (hm : p.cache.length ≤ 100) (hmm : m ≤ 100) (hn2 : n ≤ 200)
    (hc : checkP p = true) (hk : k < n) (hh : hasB n (k : Int) = true) (hs : s.size ≤ 128) :
    Calls Tryz.prog 26 #[.agg #[.slice A n c, .slice A' m d], .int .i64 k, .string s, .bool false, .func (.func 27) #[] #[]] w (Out2P w (⟨p.sectors.set k s, p.cache⟩, 0)) := by
  have HN := Lib.hid hn
  clear hn
  go_enter Tryz.func26, Tryz.ntmps26
  go_wp2_with fail
  refine (checkP_any p A A' n m c d _ (HP.step (by go_grown))).mono ?_
  rintro e w1 ⟨rfl, hb1⟩
  rw [hc]
  have hr1 := ((Blk.new w _ _).alloc _).below hb1 (by simp; omega)
  have q0 := hr1.cells 0 _ rfl
  have q1 := hr1.cells 1 _ rfl
  simp only [List.getElem_toArray, List.getElem_cons_zero, List.getElem_cons_succ] at q0 q1
  go_wp2_with fail
  refine (has_any p n m A A' c d (k : Int) _ HN.out).mono ?_
  rintro e w2 ⟨rfl, hb2⟩
  rw [HN.out, hh]
  have hb3 := hb1.trans (hb2.mono hb1.size)
  have hB3 : Below w.heap.size w w2 := Below.trans (by go_grown) (hb3.mono (by simp; omega))
  have hz3 := hb3.size
  simp only [World.size_alloc] at hz3
  have hr2 := hr1.below hb2 hr1.lt
  clear q0 q1
  have q0 := hr2.cells 0 _ rfl
  have q1 := hr2.cells 1 _ rfl
  simp only [List.getElem_toArray, List.getElem_cons_zero, List.getElem_cons_succ] at q0 q1
  clear hr1 hr2 hb1 hb2
  go_wp2_with fail
  refine (dcopied_any p A A' n m c d w2 (HP.step hB3) (by omega) (by omega)).mono ?_
  rintro e w3 ⟨g, rfl, hD3, hb4⟩
  clear q0 q1
  go_wp2_with fail
  refine (tamper1_any g w3).mono ?_
  rintro e w' ⟨rfl, rfl⟩
  go_wp2_with fail
  refine (lay_any p k s w2.heap.size g w3 hD3 (by rw [HN.out]; exact hk)).mono ?_
  rintro e w4 ⟨rfl, hD4, hb5⟩
  have hz5 := hb4.size
  have hz6 := hb5.size
  go_wp2_with fail
  refine (plain_any _ w2.heap.size g w4 hD4 (by omega)).mono ?_
  rintro e w5 ⟨v, rfl, ⟨A1, c1, A2, c2, rfl, hown1, hown2⟩, hb6⟩
  have hb7 := hb3.trans ((hb4.trans (hb5.trans (hb6.mono (show w2.heap.size ≤ w4.heap.size by omega)))).mono (by simpa using hz3))
  have hB7 : Below w.heap.size w w5 := Below.trans (by go_grown) (hb7.mono (by simp; omega))
  have hr := (Blk.new_at (g := w.heap.size + 1) (by simp) _ _).below hb7 (by simp)
  have s0 := hr.cells 0 _ rfl
  have s1 := hr.cells 1 _ rfl
  have fs := hr.frozen
  simp only [List.getElem_toArray, List.getElem_cons_zero, List.getElem_cons_succ, List.length_set] at s0 s1 hown1 hown2 ⊢
  have HO := Lib.hid (And.intro hown1 hown2)
  have HZ := Lib.hid hz3
  clear hr hb3 hb4 hb5 hb6 hb7 hB3 hD3 hD4 hown1 hown2
  go_wp2_with (with_reducible refine end_at ?_)
  refine end_ret (v := .tuple #[.agg #[.slice A1 p.sectors.length c1, .slice A2 p.cache.length c2], .int .i64 0]) (by simp [results, Tryz.results26, go_sem, s0, s1]; try rfl) rfl ⟨_, rfl, ⟨A1, c1, A2, c2, by simp, own_base (base := w2.heap.size) ?_ (by have := HZ.out; omega), own_base (base := w2.heap.size) ?_ (by have := HZ.out; omega)⟩, by go_grown⟩
  · have h1 := HO.out.1
    try simp only [List.length_set]
    have hz := HZ.out
    repeat' (first | (with_reducible exact h1) | (with_reducible refine ownsRow_setCell_below ?_ (by first | (simp; done) | (simp; omega)) _))
  · have h1 := HO.out.2
    have hz := HZ.out
    repeat' (first | (with_reducible exact h1) | (with_reducible refine ownsRow_setCell_below ?_ (by first | (simp; done) | (simp; omega)) _))
theorem tone_any (p : Plat) (i : Int) (s : ByteArray) (A A' : Option Addr) (n m c d : Nat) (w : World) (hP : PlatAt w w.heap.size A n A' m p) :
    Calls Tryz.prog 26 #[.agg #[.slice A n c, .slice A' m d], .int .i64 i, .string s, .bool false, .func (.func 27) #[] #[]] w (Out2P w (tamperF p i s)) := by
  have hn := hP.1.1
  have hm := hP.2.1
  unfold tamperF
  by_cases hc : checkP p = true
  · obtain ⟨_, h200, h100, _⟩ := (checkP_iff p).1 hc
    rw [if_pos hc, hn]
    by_cases hh : hasB n i = true
    · rw [if_pos hh]
      by_cases hs : s.size ≤ 128
      · rw [if_pos hs]
        have hi := (hasB_iff _ _).1 hh
        obtain ⟨k, rfl⟩ : ∃ k : Nat, i = k := ⟨i.toNat, by omega⟩
        rw [Int.toNat_natCast]
        exact tone_ok p k s A A' n m c d w hP.pre hn h100 (by omega) (by omega) hc (by omega) hh hs
      · rw [if_neg hs]
        exact tone_bad p i 2 s false A A' n m c d w hP.pre hn (.inr (.inr (.inl ⟨hc, hh, by omega, rfl⟩)))
    · rw [if_neg hh]
      exact tone_bad p i 130 s false A A' n m c d w hP.pre hn (.inr (.inl ⟨hc, by simpa using hh, rfl⟩))
  · rw [if_neg hc]
    exact tone_bad p i 1 s false A A' n m c d w hP.pre hn (.inl ⟨by simpa using hc, rfl⟩)
set_option maxRecDepth 100000 in
set_option maxHeartbeats 1000000 in
theorem tamper_any (p : Plat) (i : Int) (s : ByteArray) (A A' : Option Addr) (n m c d : Nat) (w : World) (hP : PlatAt w w.heap.size A n A' m p) :
    Calls Tryz.prog 11 #[.agg #[.slice A n c, .slice A' m d], .int .i64 i, .string s] w (Out2P w (tamperF p i s)) := by
  have HP := hP.pre
  clear hP
  generalize hr : tamperF p i s = r
  have HR := Lib.hid hr
  clear hr
  obtain ⟨q, er⟩ := r
  go_enter Tryz.func11, Tryz.ntmps11
  go_wp2_with fail
  refine (tone_any p i s A A' n m c d _ (HP.step (by go_grown))).mono ?_
  rintro e w1 ⟨v, rfl, ⟨A1, c1, A2, c2, rfl, hown1, hown2⟩, hb1⟩
  rw [HR.out] at hown1 hown2 ⊢
  have hB1 : Below w.heap.size w w1 := Below.trans (by go_grown) (hb1.mono (by simp; omega))
  have hr2 := (Blk.new_at (g := w.heap.size + 1) (by simp) _ _).below hb1 (by simp)
  have s0 := hr2.cells 0 _ rfl
  have s1 := hr2.cells 1 _ rfl
  have fs := hr2.frozen
  simp only [List.getElem_toArray, List.getElem_cons_zero, List.getElem_cons_succ, World.size_alloc] at s0 s1 hown1 hown2
  have HO := Lib.hid (And.intro hown1 hown2)
  clear hr2 hb1 hown1 hown2
  go_wp2_with (with_reducible refine end_at ?_)
  refine end_ret (v := .tuple #[.agg #[.slice A1 q.sectors.length c1, .slice A2 q.cache.length c2], .int .i64 er]) (by simp [results, Tryz.results11, go_sem, s0, s1]; try rfl) rfl ⟨_, rfl, ⟨A1, c1, A2, c2, rfl, own_base (base := w.heap.size + 1 + 1) ?_ (by omega), own_base (base := w.heap.size + 1 + 1) ?_ (by omega)⟩, by go_grown⟩
  · have h1 := HO.out.1
    repeat' (first | (with_reducible exact h1) | (with_reducible refine ownsRow_setCell_below ?_ (by first | (simp; done) | (simp; omega)) _))
  · have h1 := HO.out.2
    repeat' (first | (with_reducible exact h1) | (with_reducible refine ownsRow_setCell_below ?_ (by first | (simp; done) | (simp; omega)) _))
end Go.Proofs.YtpkomloblhbkiaaGreatDoor
namespace Go.Proofs.YtpkomloblhbkiaaGreatDoor
open Go.RowKit
def textsB (S T : List ByteArray) : Bool := decide (S = T)
theorem textsB_len {S T : List ByteArray} (h : S.length ≠ T.length) : textsB S T = false := by
  simp only [textsB, decide_eq_false_iff_not]
  rintro rfl; exact h rfl
theorem textsB_at {S T : List ByteArray} {k : Nat} {x y : ByteArray} (hx : S[k]? = some x) (hy : T[k]? = some y) (h : x ≠ y) : textsB S T = false := by
  simp only [textsB, decide_eq_false_iff_not]
  rintro rfl
  rw [hx] at hy
  exact h (Option.some.inj hy)
theorem textsB_all {S T : List ByteArray} (hl : S.length = T.length) (h : ∀ (i : Nat) x y, S[i]? = some x → T[i]? = some y → x = y) : textsB S T = true := by
  simp only [textsB, decide_eq_true_eq]
  apply List.ext_getElem hl
  intro i h1 h2
  exact h i _ _ (List.getElem?_eq_getElem h1) (List.getElem?_eq_getElem h2)
end Go.Proofs.YtpkomloblhbkiaaGreatDoor
