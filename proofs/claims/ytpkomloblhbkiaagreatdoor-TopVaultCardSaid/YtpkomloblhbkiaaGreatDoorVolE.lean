/- volume, plain: what is hidden is shown. -/
import Derived.Test.YtpkomloblhbkiaaGreatDoorVauJ
import Derived.Test.YtpkomloblhbkiaaGreatDoorRowsOpen
import Derived.Test.YtpkomloblhbkiaaGreatDoorVolC
import Derived.Test.YtpkomloblhbkiaaGreatDoorNonB
import Derived.Deep.QuietTactic
import Derived.BigQuiet
import Derived.Test.YtpkomloblhbkiaaGreatDoorVauA
set_option linter.unusedVariables false
set_option linter.unusedSimpArgs false
/- vault, plain: behind a Store, stopped or not, and a crash, there lies the old volume, or the new one. -/
namespace Go.Proofs.YtpkomloblhbkiaaGreatDoor
open Go.RowKit
theorem laid_touch {p : Plat} {n b : Nat} {L : List ByteArray} (hp : p.cache = []) (hw : ∀ k, k < n → (writeF (laidTo p n b L k) (sectorN n b k : Nat) (L.getD k ByteArray.empty)).2 = 0) :
    ∀ k, k ≤ n → ∀ o : Nat, (∀ i, i < k → o ≠ sectorN n b i) → touchB (laidTo p n b L k).cache o = false := by
  intro k
  induction k with
  | zero => intro _ o _; show touchB p.cache o = false; rw [hp]; rfl
  | succ k ih =>
    intro hk o ho
    have e := (write_ok (hw k (by omega))).2.2.2.2
    show touchB (writeF _ _ _).1.cache o = false
    rw [e]
    have h1 := ih (by omega) o (fun i hi => ho i (by omega))
    have h2 := ho k (by omega)
    unfold touchB at h1 ⊢
    rw [List.any_append, h1]
    simp
    omega
theorem read_bare {p q : Plat} (hc : checkP p = true) (hq : checkP q = true) (hp : p.cache = []) (hqc : q.cache = []) (hl : q.sectors.length = p.sectors.length) {o : Nat} (h : q.sectors[o]? = p.sectors[o]?) : readF q (o : Int) = readF p (o : Int) := by
  rw [readF_ok hc, readF_ok hq, hl]
  obtain ⟨S, C⟩ := p
  obtain ⟨S', C'⟩ := q
  dsimp only at hp hqc h ⊢
  subst hp hqc
  rw [readOf_bare, readOf_bare]
  simp only [List.getD, Int.toNat_natCast, h]
theorem crash_laid {p : Plat} {n b : Nat} {L : List ByteArray} (hc : checkP p = true) (hp : p.cache = []) (hl : p.sectors.length = 3 + 2 * n) (hn : n ≤ 64) (hb : b ≤ 1) (hL : ∀ s ∈ L, s.size ≤ 128) {k : Nat} (hk : k ≤ n) (F : List Int) :
    ∃ q, crashF (laidTo p n b L k) F = (q, 0) ∧ checkP q = true ∧ q.cache = [] ∧ q.sectors.length = p.sectors.length ∧ ∀ o : Nat, (∀ i, i < k → o ≠ sectorN n b i) → readF q (o : Int) = readF p (o : Int) := by
  have hf := writes_fit hc hp hl hn hb hL
  obtain ⟨c1, c2, c3, c4, _, _⟩ := hf k hk
  obtain ⟨d1, d2, d3, d4, d5⟩ := crash_ok c1 F
  refine ⟨_, Prod.ext rfl d1, d4, d3, by rw [d2, c2], fun o ho => ?_⟩
  refine read_bare hc d4 hp d3 (by rw [d2, c2]) ?_
  rw [d5 o (laid_touch hp (fun j hj => (hf j (by omega)).2.2.2.2.2 hj) k hk o ho), c2]
theorem mark_same {p q : Plat} (h : ∀ o : Nat, o < 3 → readF q (o : Int) = readF p (o : Int)) : getF q 0 = getF p 0 := by
  refine getF_same (h 0 (by omega)) fun far hf => ?_
  rcases bodyF_cases (readF p 0).1 with ⟨_, e⟩ | ⟨_, e⟩ | ⟨_, _, e⟩
  · rw [e] at hf; injection hf with hf _; subst hf; exact h 1 (by omega)
  · rw [e] at hf; injection hf with hf _; subst hf; exact h 2 (by omega)
  · rw [e] at hf; injection hf with _ hf; cases hf
theorem sector_ge (n b i : Nat) : 3 ≤ sectorN n b i := by unfold sectorN; omega
theorem store_crash {p : Plat} {n a g : Nat} {v u : Vol} (h : Lies p n a g v) (hu : volB u = true) (hul : u.blocks.length = n) (hur : rootedB u = true) (hg : g + 1 ≤ 1000000000) (D : Nat) (F : List Int) :
    (storeF p n (1 - a) (g + 1) u D).2.2 = 0 ∧ DeedsOk p n (1 - a) u.blocks ∧ ∃ q, crashF (storeF p n (1 - a) (g + 1) u D).1 F = (q, 0) ∧ ((Lies q n a g v ∧ (storeF p n (1 - a) (g + 1) u D).2.1 = false) ∨ Lies q n (1 - a) (g + 1) u) := by
  obtain ⟨_, hn1, h64⟩ := h.n64
  have ha := h.a1
  have hL : ∀ s ∈ u.blocks, s.size ≤ 128 := fun s hs => by have := ((volB_iff u).1 hu).2.2 s hs; omega
  have hfit := writes_fit (b := 1 - a) h.chk h.bare h.len h64 (by omega) hL
  obtain ⟨c1, c2, c3, c4, c5, _⟩ := hfit n (Nat.le_refl _)
  obtain ⟨s1, s2, s3, s4, _⟩ := sync_ok c1
  have hok : DeedsOk p n (1 - a) u.blocks := ⟨fun k hk => (hfit k (by omega)).2.2.2.2.2 hk, s1⟩
  have old : ∀ q : Plat, checkP q = true → q.cache = [] → q.sectors.length = p.sectors.length → getF q 0 = getF p 0 → (∀ i, i < n → readF q (sectorN n a i : Nat) = readF p (sectorN n a i : Nat)) → Lies q n a g v :=
    fun q q1 q2 q3 q4 q5 => ⟨q1, q2, by rw [q3]; exact h.len, ha, h.g9, by rw [q4]; exact h.mark, fun i hi => by rw [q5 i hi]; exact h.blk i hi, h.vol, h.vlen, h.rt⟩
  by_cases hD : D ≤ n
  · have e : storeF p n (1 - a) (g + 1) u D = (laidTo p n (1 - a) u.blocks D, false, 0) := by unfold storeF deedTo; rw [if_pos hD, if_pos hD]
    rw [e]
    obtain ⟨q, q1, q2, q3, q4, q5⟩ := crash_laid (b := 1 - a) h.chk h.bare h.len h64 (by omega) hL hD F
    refine ⟨rfl, hok, q, q1, .inl ⟨old q q2 q3 q4 (mark_same fun o ho => q5 o fun i hi => ?_) (fun i hi => q5 _ fun k hk => ?_), rfl⟩⟩
    · have := sector_ge n (1 - a) i; omega
    · exact sector_ne ha (by omega) hi (by omega) (.inl (by omega))
  · have e : storeF p n (1 - a) (g + 1) u D = putF (syncF (laidTo p n (1 - a) u.blocks n)).1 0 (vheadB (g + 1) (1 - a) u.root) ((D - (n + 1) : Nat) : Int) := by
      unfold storeF deedTo; rw [if_neg hD, if_neg (by omega)]
    rw [e]
    have rd : ∀ o : Int, readF (syncF (laidTo p n (1 - a) u.blocks n)).1 o = readF (laidTo p n (1 - a) u.blocks n) o := fun o => read_sync c1 o
    generalize (syncF (laidTo p n (1 - a) u.blocks n)).1 = P at *
    have hgm : getF P 0 = getF p 0 := mark_same fun o ho => by
      rw [rd]
      exact c4 o fun i hi => by have := sector_ge n (1 - a) i; omega
    have hg0 : (getF P 0).2.2 = 0 := by rw [hgm, h.mark]
    have hur2 := ((volB_iff u).1 hu).2.1
    have hpz := put_fits (s := vheadB (g + 1) (1 - a) u.root) s2 hg0 (by rw [s3, c2, h.len]; omega) (by rw [vhead_size hur2]; omega) ((D - (n + 1) : Nat) : Int)
    obtain ⟨b, x, ok, b1, b2, b3, b4, b5, b6, b7⟩ := tcrash_more s2 hg0 hpz F
    refine ⟨hpz, hok, b, b1, ?_⟩
    rcases b3 with ⟨rfl, rfl⟩ | ⟨b8, rfl, rfl⟩
    · refine .inr ⟨b6, b4, by rw [b5, s3, c2]; exact h.len, by omega, hg, b2, fun i hi => ?_, hu, hul, hur⟩
      have := sector_ge n (1 - a) i
      rw [b7 _ (by omega) (by omega) (by omega), rd]
      exact c5 i hi
    · refine .inl ⟨old b b6 b4 (by rw [b5, s3, c2]) ?_ (fun i hi => ?_), b8⟩
      · rw [b2, hgm, h.mark]
      · have := sector_ge n a i
        rw [b7 _ (by omega) (by omega) (by omega), rd]
        exact c4 _ fun k hk => by
          have := sector_ne (a := a) (b := 1 - a) ha (by omega) hi hk (.inl (by omega))
          omega
end Go.Proofs.YtpkomloblhbkiaaGreatDoor
/- As RoundReg, at the wide fence, outside of rounds; regions of whose operations the last ones store (OrderT). -/
namespace Go.Proofs.YtpkomloblhbkiaaGreatDoor
section
variable {P : Program} {ops : Array Oper} {Q : Exit → Act → World → Prop} {md : Region.Mode} {n l : Nat}
theorem wpOp_wide (hnd : ∀ (i : Nat) (o : Oper), ops[i]? = some o → ∀ c : Call, o.op ≠ .defer c) {K K' : Act → World → Prop} (hK : ∀ a w, K a w → K' a w) (i : Nat) (a : Act) (w : World) (h : wpOp P ops (Calm Q) i K a w) :
    wpOpIn Fence.wide n P ops Q i K' a w := by
  unfold wpOp at h
  unfold wpOpIn
  cases ho : ops[i]? with
  | none => rw [ho] at h; exact hK _ _ h
  | some o =>
    rw [ho] at h
    simp only at h ⊢
    split
    · rename_i hw
      rw [if_pos hw] at h
      rcases h with h | h
      · unfold Oper.wp at h
        unfold Oper.wpIn
        refine ⟨fun _ _ => trivial, ?_⟩
        rw [Oper.semAt_eq _ _ _ (hnd i o ho)]
        generalize (execOp a.eval o).run P w = r at *
        cases r with
        | ok x w' =>
          cases x <;> simp only [Oper.upon, Oper.uponIn] at h ⊢
          case value => exact hK _ _ h
          case skip => exact hK _ _ h
          case defer => exact hK _ _ h
          case enter =>
            refine ⟨fun hf => (by cases hf), (callsIn_wide.2 h).mono ?_⟩
            intro e w'' he
            cases e with
            | returned v => exact hK _ _ he
            | panicked c => cases he.1
            | outgrown => exact (Calm.out he).elim
          case row =>
            refine ⟨fun hf => (by cases hf), fun c cs _ => ?_⟩
            obtain ⟨v, w'', hr, hs⟩ := h c cs
            exact ⟨v, w'', hK _ _ hr, (stepsIn_wide (P := P)).2 hs⟩
        | halt x w' =>
          cases x <;> simp only [Oper.upon, Oper.uponIn] at h ⊢
          cases h.1
      · exact (Calm.out h.2).elim
    · rename_i hw
      rw [if_neg hw] at h
      exact ⟨fun _ _ => trivial, hK _ _ h⟩
theorem wpAny_wide (hnd : ∀ (i : Nat) (o : Oper), ops[i]? = some o → ∀ c : Call, o.op ≠ .defer c) (k : Nat) : ∀ (li : Array Bool) (a : Act) (w : World), wpAny P md ops (Calm Q) k li a w → wpAnyIn Fence.wide n P md ops Q k li a w := by
  induction k with
  | zero => exact fun _ _ _ h => ⟨h.1, h.2.2⟩
  | succ k ih => exact fun li a w h => ⟨fun h0 => (h.1 h0).2, fun i hi => wpOp_wide hnd (fun a' w' h' => ih _ a' w' h') i a w (h.2 i hi)⟩
theorem wpIn_wide_T {id : Nat} {a : Act} {w : World} (zs : List Nat) (S : World → Prop) (hm : P.follows .mixedOrders = true) (hd : noDefer ops = true) (h : wpAnyT P .any ops (Calm Q) S zs ops.size (Array.replicate ops.size false) a w.drew) : (Code.region id ops true).wpIn Fence.wide n P Q a w :=
  wpIn_region_any hm (wpAny_wide (noDefer_spec hd) _ _ _ _ (wpAny_of_T _ _ _ _ h))
end
end Go.Proofs.YtpkomloblhbkiaaGreatDoor
/- vault.Store: what its loop keeps. -/
namespace Go.Proofs.YtpkomloblhbkiaaGreatDoor
open Go.RowKit
def normD (n : Nat) (D : Int) : Nat := if D < 0 ∨ ((n + 5 : Nat) : Int) < D then n + 5 else D.toNat
section
variable {W W' : World} {row : Option Nat}
/-- an object that is no cells is turned: cells stay -/
theorem own_keep {base sz n : Nat} {e : TypeId} {v : Value} {xs : List Value} (h : W.ownsRow base e sz v n xs) (hg : W.grownBy W' row) (hr : ∀ r, row = some r → ∃ o : Obj, W.heap[r]? = some o ∧ o.isCells = false) : W'.ownsRow base e sz v n xs := by
  refine ⟨h.1, ?_⟩
  rcases h.2 with hn | ⟨g, cap, cur, rfl, hb', hh, rest⟩
  · exact .inl hn
  · have hlt := (Array.getElem?_eq_some_iff.1 hh).1
    refine .inr ⟨g, cap, cur, rfl, hb', (hg.block g hlt fun e => ?_).trans hh, rest⟩
    obtain ⟨o, ho, hc⟩ := hr g e.symm
    rw [hh] at ho
    injection ho with ho
    subst ho
    simp [Obj.isCells] at hc
theorem blk_keep {g : Nat} {t : TypeId} {cs : Array Value} (h : Blk W g t cs) (hg : W.grownBy W' row) (hr : ∀ r, row = some r → ∃ o : Obj, W.heap[r]? = some o ∧ o.isCells = false) : Blk W' g t cs := by
  refine h.grown hg fun e => ?_
  obtain ⟨o, ho, hc⟩ := hr g e.symm
  unfold Blk at h
  rw [h] at ho
  injection ho with ho
  subst ho
  simp [Obj.isCells] at hc
theorem PlatOut.keep {B : Nat} {v : Value} {p : Plat} (h : PlatOut W B v p) (hg : W.grownBy W' row) (hr : ∀ r, row = some r → ∃ o : Obj, W.heap[r]? = some o ∧ o.isCells = false) : PlatOut W' B v p := by
  obtain ⟨A, c, A', c', e, q1, q2⟩ := h
  exact ⟨A, c, A', c', e, own_keep q1 hg hr, own_keep q2 hg hr⟩
theorem PlatOut.on_ {B : Nat} {v : Value} {p : Plat} (h : PlatOut W B v p) (hb : Below W.heap.size W W') : PlatOut W' B v p := by
  obtain ⟨A, c, A', c', e, q1, q2⟩ := h
  exact ⟨A, c, A', c', e, own_below q1 hb (Nat.le_refl _), own_below q2 hb (Nat.le_refl _)⟩
end
/-- the blocks of S stay -/
def KeptAt (S : Nat → Prop) (A B : World) : Prop := A.heap.size ≤ B.heap.size ∧ ∀ k, S k → k < A.heap.size → B.heap[k]? = A.heap[k]?
section
variable {S : Nat → Prop} {A B C : World}
theorem KeptAt.refl (A : World) : KeptAt S A A := ⟨Nat.le_refl _, fun _ _ _ => rfl⟩
theorem KeptAt.trans (h : KeptAt S A B) (k : KeptAt S B C) : KeptAt S A C := ⟨Nat.le_trans h.1 k.1, fun i hi hl => (k.2 i hi (Nat.lt_of_lt_of_le hl h.1)).trans (h.2 i hi hl)⟩
theorem KeptAt.of_below (h : Below A.heap.size A B) : KeptAt S A B := ⟨h.size, fun k _ hl => h.block k hl⟩
theorem KeptAt.put {l : Nat} (hl : ¬ S l) (o : Obj) (A : World) : KeptAt S A (A.putObj l o) :=
  ⟨Nat.le_of_eq (by simp [World.putObj]), fun k hk _ => World.putObj_heap_other (fun e => hl (e ▸ hk))⟩
theorem KeptAt.set {g : Nat} (h : KeptAt S A B) (hg : ¬ S g) (o : Nat) (u : Value) : KeptAt S A (B.setCell ⟨g, o, none⟩ u) :=
  ⟨Nat.le_trans h.1 (Nat.le_of_eq (by simp [World.setCell])), fun k hk hl => (Below.heap_setCell B ⟨g, o, none⟩ u k (fun e => hg (by have e : k = g := e; rw [← e]; exact hk))).trans (h.2 k hk hl)⟩
theorem KeptAt.blk {g : Nat} {t : TypeId} {cs : Array Value} (h : KeptAt S A B) (hg : S g) (hb : Blk A g t cs) : Blk B g t cs := (h.2 g hg hb.lt).trans hb
end
/-- the boxes of Store: the platter, the volume, the number of deeds, the three results, the chest, the errno -/
structure StoB (g x1 : Nat) (P V : Array Value) (d : Int) (R C : Array Value) (e r : Int) (W : World) : Prop where
  p : Blk W g 42 P
  v : Blk W (g + 1) 36 V
  d : Blk W (g + 1 + 1) 3 #[.int .i64 d]
  r0 : Blk W (g + 1 + 1 + 1) 42 R
  r1 : Blk W (g + 1 + 1 + 1 + 1) 4 #[.bool false]
  r2 : Blk W (g + 1 + 1 + 1 + 1 + 1) 37 #[.int .i64 r]
  c : Blk W x1 71 C
  e : Blk W (x1 + 1) 37 #[.int .i64 e]
section
variable {g x1 : Nat} {P V : Array Value} {d : Int} {R C : Array Value} {e r : Int} {W W' : World} {row : Option Nat}
theorem StoB.on_ (h : StoB g x1 P V d R C e r W) (hb : Below W.heap.size W W') : StoB g x1 P V d R C e r W' :=
  ⟨h.p.below hb h.p.lt, h.v.below hb h.v.lt, h.d.below hb h.d.lt, h.r0.below hb h.r0.lt, h.r1.below hb h.r1.lt, h.r2.below hb h.r2.lt, h.c.below hb h.c.lt, h.e.below hb h.e.lt⟩
theorem StoB.keep (h : StoB g x1 P V d R C e r W) (hg : W.grownBy W' row) (hr : ∀ r, row = some r → ∃ o : Obj, W.heap[r]? = some o ∧ o.isCells = false) : StoB g x1 P V d R C e r W' :=
  ⟨blk_keep h.p hg hr, blk_keep h.v hg hr, blk_keep h.d hg hr, blk_keep h.r0 hg hr, blk_keep h.r1 hg hr, blk_keep h.r2 hg hr, blk_keep h.c hg hr, blk_keep h.e hg hr⟩
theorem StoB.set_d (h : StoB g x1 P V d R C e r W) (hx : g + 1 + 1 + 1 + 1 + 1 < x1) (y : Int) : StoB g x1 P V y R C e r (W.setCell ⟨g + 1 + 1, 0, none⟩ (.int .i64 y)) := by
  have k : ∀ a, a ≠ g + 1 + 1 → a ≠ (⟨g + 1 + 1, 0, none⟩ : Addr).block := fun a h => h
  exact ⟨h.p.far (k _ (by omega)) _, h.v.far (k _ (by omega)) _, h.d.set_ 0 _, h.r0.far (k _ (by omega)) _, h.r1.far (k _ (by omega)) _, h.r2.far (k _ (by omega)) _, h.c.far (k _ (by omega)) _, h.e.far (k _ (by omega)) _⟩
theorem StoB.set_e (h : StoB g x1 P V d R C e r W) (hx : g + 1 + 1 + 1 + 1 + 1 < x1) (y : Int) : StoB g x1 P V d R C y r (W.setCell ⟨x1 + 1, 0, none⟩ (.int .i64 y)) := by
  have k : ∀ a, a ≠ x1 + 1 → a ≠ (⟨x1 + 1, 0, none⟩ : Addr).block := fun a h => h
  exact ⟨h.p.far (k _ (by omega)) _, h.v.far (k _ (by omega)) _, h.d.far (k _ (by omega)) _, h.r0.far (k _ (by omega)) _, h.r1.far (k _ (by omega)) _, h.r2.far (k _ (by omega)) _, h.c.far (k _ (by omega)) _, h.e.set_ 0 _⟩
theorem StoB.set_p {a b : Value} (h : StoB g x1 #[a, b] V d R C e r W) (hx : g + 1 + 1 + 1 + 1 + 1 < x1) (y z : Value) : StoB g x1 #[y, z] V d R C e r ((W.setCell ⟨g, 0, none⟩ y).setCell ⟨g, 1, none⟩ z) := by
  have k : ∀ a o, a ≠ g → a ≠ (⟨g, o, none⟩ : Addr).block := fun a o h => h
  exact ⟨(h.p.set_ 0 _).set_ 1 _, (h.v.far (k _ 0 (by omega)) _).far (k _ 1 (by omega)) _, (h.d.far (k _ 0 (by omega)) _).far (k _ 1 (by omega)) _, (h.r0.far (k _ 0 (by omega)) _).far (k _ 1 (by omega)) _, (h.r1.far (k _ 0 (by omega)) _).far (k _ 1 (by omega)) _, (h.r2.far (k _ 0 (by omega)) _).far (k _ 1 (by omega)) _, (h.c.far (k _ 0 (by omega)) _).far (k _ 1 (by omega)) _, (h.e.far (k _ 0 (by omega)) _).far (k _ 1 (by omega)) _⟩
theorem StoB.set_r {a b : Value} (h : StoB g x1 P V d #[a, b] C e r W) (hx : g + 1 + 1 + 1 + 1 + 1 < x1) (y z : Value) : StoB g x1 P V d #[y, z] C e r ((W.setCell ⟨g + 1 + 1 + 1, 0, none⟩ y).setCell ⟨g + 1 + 1 + 1, 1, none⟩ z) := by
  have k : ∀ a o, a ≠ g + 1 + 1 + 1 → a ≠ (⟨g + 1 + 1 + 1, o, none⟩ : Addr).block := fun a o h => h
  exact ⟨(h.p.far (k _ 0 (by omega)) _).far (k _ 1 (by omega)) _, (h.v.far (k _ 0 (by omega)) _).far (k _ 1 (by omega)) _, (h.d.far (k _ 0 (by omega)) _).far (k _ 1 (by omega)) _, (h.r0.set_ 0 _).set_ 1 _, (h.r1.far (k _ 0 (by omega)) _).far (k _ 1 (by omega)) _, (h.r2.far (k _ 0 (by omega)) _).far (k _ 1 (by omega)) _, (h.c.far (k _ 0 (by omega)) _).far (k _ 1 (by omega)) _, (h.e.far (k _ 0 (by omega)) _).far (k _ 1 (by omega)) _⟩
theorem StoB.set_r2 (h : StoB g x1 P V d R C e r W) (hx : g + 1 + 1 + 1 + 1 + 1 < x1) (y : Int) : StoB g x1 P V d R C e y (W.setCell ⟨g + 1 + 1 + 1 + 1 + 1, 0, none⟩ (.int .i64 y)) := by
  have k : ∀ a, a ≠ g + 1 + 1 + 1 + 1 + 1 → a ≠ (⟨g + 1 + 1 + 1 + 1 + 1, 0, none⟩ : Addr).block := fun a h => h
  exact ⟨h.p.far (k _ (by omega)) _, h.v.far (k _ (by omega)) _, h.d.far (k _ (by omega)) _, h.r0.far (k _ (by omega)) _, h.r1.far (k _ (by omega)) _, h.r2.set_ 0 _, h.c.far (k _ (by omega)) _, h.e.far (k _ (by omega)) _⟩
theorem StoB.set_r1 (h : StoB g x1 P V d R C e r W) (hx : g + 1 + 1 + 1 + 1 + 1 < x1) : StoB g x1 P V d R C e r (W.setCell ⟨g + 1 + 1 + 1 + 1, 0, none⟩ (.bool false)) := by
  have k : ∀ a, a ≠ g + 1 + 1 + 1 + 1 → a ≠ (⟨g + 1 + 1 + 1 + 1, 0, none⟩ : Addr).block := fun a h => h
  exact ⟨h.p.far (k _ (by omega)) _, h.v.far (k _ (by omega)) _, h.d.far (k _ (by omega)) _, h.r0.far (k _ (by omega)) _, h.r1.set_ 0 _, h.r2.far (k _ (by omega)) _, h.c.far (k _ (by omega)) _, h.e.far (k _ (by omega)) _⟩
end
/-- what the loop of Store keeps: q is the platter, d the number -/
def StoI (w : World) (x1 z : Nat) (V C : Array Value) (q : Plat) (d : Int) (W : World) : Prop :=
  ∃ P, PlatOut W w.heap.size (.agg P) q ∧ StoB w.heap.size x1 P V d #[.slice none 0 0, .slice none 0 0] C 0 0 W ∧ Below w.heap.size w W ∧ z ≤ W.heap.size
/-- .. where it is left: q lies in the first result's box -/
def StoX (w : World) (x1 z : Nat) (V C : Array Value) (q : Plat) (W : World) : Prop :=
  ∃ P d, PlatOut W w.heap.size (.agg P) q ∧ StoB w.heap.size x1 P V d P C 0 0 W ∧ Below w.heap.size w W ∧ z ≤ W.heap.size
section
variable {w : World} {x1 z : Nat} {V C : Array Value} {q : Plat} {d : Int} {W W' : World} {row : Option Nat}
theorem StoI.on_ (h : StoI w x1 z V C q d W) (hb : Below W.heap.size W W') : StoI w x1 z V C q d W' := by
  obtain ⟨P, h1, h2, h3, h4⟩ := h
  exact ⟨P, h1.on_ hb, h2.on_ hb, h3.trans (hb.mono h3.size), Nat.le_trans h4 hb.size⟩
theorem StoX.on_ (h : StoX w x1 z V C q W) (hb : Below W.heap.size W W') : StoX w x1 z V C q W' := by
  obtain ⟨P, d, h1, h2, h3, h4⟩ := h
  exact ⟨P, d, h1.on_ hb, h2.on_ hb, h3.trans (hb.mono h3.size), Nat.le_trans h4 hb.size⟩
theorem StoI.keep (h : StoI w x1 z V C q d W) (hz : w.heap.size ≤ z) (hg : W.grownBy W' row) (hr : ∀ r, row = some r → z ≤ r ∧ ∃ o : Obj, W.heap[r]? = some o ∧ o.isCells = false) : StoI w x1 z V C q d W' := by
  obtain ⟨P, h1, h2, h3, h4⟩ := h
  exact ⟨P, h1.keep hg fun r e => (hr r e).2, h2.keep hg fun r e => (hr r e).2, h3.grown hg h3.size fun k e => Nat.le_trans hz (hr k e).1, Nat.le_trans h4 hg.size⟩
theorem StoX.keep (h : StoX w x1 z V C q W) (hz : w.heap.size ≤ z) (hg : W.grownBy W' row) (hr : ∀ r, row = some r → z ≤ r ∧ ∃ o : Obj, W.heap[r]? = some o ∧ o.isCells = false) : StoX w x1 z V C q W' := by
  obtain ⟨P, d, h1, h2, h3, h4⟩ := h
  exact ⟨P, d, h1.keep hg fun r e => (hr r e).2, h2.keep hg fun r e => (hr r e).2, h3.grown hg h3.size fun k e => Nat.le_trans hz (hr k e).1, Nat.le_trans h4 hg.size⟩
end
/-- nothing is appended to nothing -/
theorem append_none {P : Program} {w : World} (t ty e : TypeId) (i : TypeInfo) (size c : Nat) (A : Option Addr) (ht : P.underlying t = some (.slice e)) (hi : P.info? e = some i) : (Builtin.append_ #[t, t] ty #[.slice none 0 0, .slice A 0 c]).run P w = .ok (.slice none 0 0) w := by
  cases A <;> simp [Builtin.append_, run_underlying ht, sizeOf, typeInfo, hi, Builtin.lenOf, Builtin.firstCells, storeCells, loadCells, loadCellsFrom]
theorem yields_append_none {P : Program} {ops : Array Oper} {S : World → Prop} {o : Oper} {a : Act} (s x : Operand) (t e : TypeId) (i : TypeInfo) (A : Option Addr) (c : Nat) (ho : o.op = .call { callee := .builtin .append, args := #[s, x], argTypes := #[t, t] })
    (hgd : Region.wanted o (yielded ops a.tmps) = true) (hs : a.eval s = .slice none 0 0) (hx : a.eval x = .slice A 0 c) (ht : P.underlying t = some (.slice e)) (hi : P.info? e = some i) : YieldsIf P ops S o (.slice none 0 0) a := by
  refine Or.inl ⟨hgd, fun w hw => ?_⟩
  unfold execOp
  simp only [ho, resolve, invoke, builtin, Sem.run_bind, Sem.run_pure, Result.andThen_ok, List.map_toArray, List.map_cons, List.map_nil, hs, hx, append_none (P := P) t o.type e i i.size c A ht hi]
theorem plat_own_bare {W : World} {p : Plat} {base B nS c : Nat} {A : Option Addr} (hl1 : p.sectors.length = nS) (hl2 : p.cache.length = 0) (h : W.ownsRow base 9 1 (.slice A nS c) nS (flat encS p.sectors)) (hb : B ≤ base) : PlatOut W B (.agg #[.slice A nS c, .slice none 0 0]) p := by
  obtain ⟨ps, pc⟩ := p
  dsimp only at *
  obtain rfl : pc = [] := List.eq_nil_of_length_eq_zero hl2
  subst hl1
  exact ⟨A, c, none, 0, rfl, own_base h hb, World.ownsRow_nil _ _ _ _⟩
def deedX (cb : Nat) (x : Option (Nat × Nat)) : Value := match x with
  | some (ib, sb) => .func (.func 92) #[] #[.pointer (some ⟨cb, 0, none⟩), .pointer (some ⟨ib, 0, none⟩), .pointer (some ⟨sb, 0, none⟩)]
  | none => .func (.func 86) #[] #[]
theorem deedV_eq (cb : Nat) (x : Option (Nat × Nat)) : deedV cb x = #[deedX cb x] := by
  cases x <;> rfl
theorem deeds_seq {S : Nat → Prop} {w W0 : World} {n c cb vb : Nat} {B : Option Addr} {L : List ByteArray} {root : ByteArray} (m : Nat) (hm : 1 ≤ m) (hvb : Blk W0 vb 36 #[.slice B n c, .string root]) (hSv : S vb) (hSk : ∀ k, k < w.heap.size → S k)
    (hL : SlR encS 1 w w.heap.size B n L) (hB : Below w.heap.size w W0) (hn1 : 1 ≤ n) (hn : n ≤ 64) :
    SeqStopsN Fence.wide m Tryz.prog 91 #[.pointer (some ⟨vb, 0, none⟩), .pointer (some ⟨cb, 0, none⟩)] (fun x => #[deedX cb x]) (fun ys => ys.length = n + 1) (deedNx L W0.heap.size) (KeptAt S) W0 := by
  intro l J Jx W hW hJ hJx hY h0
  refine deeds1_in Fence.wide m trivial rfl hm l vb cb W0.heap.size L B n c root J Jx (KeptAt S) KeptAt.refl (fun _ _ _ => KeptAt.trans) (fun A B h => KeptAt.of_below h) (fun A B h hb => Nat.le_trans hb h.1) hJ hJx (fun pre x W1 h1 h2 => by rw [deedV_eq]; exact hY pre x W1 h1 h2) W
    (fun W' hk => hk.blk hSv (hvb.below hW hvb.lt)) (fun W' hk i s hs => ?_) hL.1 (by omega) hW.size h0
  rcases hL.2 with h | ⟨b, off, rfl, hb, hc⟩
  · omega
  · refine ⟨b, off, rfl, ?_⟩
    have hb0 : b < W0.heap.size := Nat.lt_of_lt_of_le hb hB.size
    have h1 := hc i s hs 0 _ rfl
    have h2 : W'.heap[b]? = w.heap[b]? := ((hk.2 b (hSk b hb) (Nat.lt_of_lt_of_le hb0 hW.size)).trans (hW.block b hb0)).trans (hB.block b hb)
    have h3 : W'.cell? ⟨b, off + i * 1 + 0, none⟩ = w.cell? ⟨b, off + i * 1 + 0, none⟩ := World.cell?_of_block (w := w) h2
    have h4 := h3.trans h1
    simpa using h4
theorem deedNx_from (L : List ByteArray) (base B : Nat) (pre : List (Option (Nat × Nat))) (x : Option (Nat × Nat)) : OwnFrom B (fun (_ : Unit) W => deedNx L base pre x W) := by
  intro s W W' row hs hg hr
  cases x with
  | none => exact hs
  | some q =>
    obtain ⟨ib, sb⟩ := q
    obtain ⟨t, h1, h2, h3, h4, h5⟩ := hs
    exact ⟨t, h1, h2, h3, blk_keep h4 hg fun r e => (hr r e).2, blk_keep h5 hg fun r e => (hr r e).2⟩
/-- what the loop of Store keeps behind the first deeds -/
def StoJ (w : World) (x1 z : Nat) (V C : Array Value) (p : Plat) (n b : Nat) (L : List ByteArray) (N : Nat) (pre : List (Option (Nat × Nat))) (W : World) : Prop :=
  pre.length ≤ n + 1 ∧ pre.length ≤ N ∧ StoI w x1 z V C (deedTo p n b L pre.length) ((N - pre.length : Nat) : Int) W
def StoY (w : World) (x1 z : Nat) (V C : Array Value) (p : Plat) (n b : Nat) (L : List ByteArray) (N : Nat) (W : World) : Prop :=
  N ≤ n ∧ StoX w x1 z V C (deedTo p n b L N) W
theorem StoJ.from_ {w : World} {x1 z : Nat} {V C : Array Value} {p : Plat} {n b : Nat} {L : List ByteArray} {N : Nat} (hz : w.heap.size ≤ z) : OwnFrom z (StoJ w x1 z V C p n b L N) :=
  fun s W W' row hs hg hr => ⟨hs.1, hs.2.1, hs.2.2.keep hz hg hr⟩
theorem StoY.from_ {w : World} {x1 z : Nat} {V C : Array Value} {p : Plat} {n b : Nat} {L : List ByteArray} {N : Nat} (hz : w.heap.size ≤ z) : OwnFrom z (fun (_ : List (Option (Nat × Nat))) => StoY w x1 z V C p n b L N) :=
  fun s W W' row hs hg hr => ⟨hs.1, hs.2.keep hz hg hr⟩
theorem deedTo_some {p : Plat} {n b k : Nat} {L : List ByteArray} {s : ByteArray} (hk : k < n) (hs : L[k]? = some s) : deedTo p n b L (k + 1) = (writeF (deedTo p n b L k) (sectorN n b k : Nat) s).1 := by
  unfold deedTo
  rw [if_pos (by omega), if_pos (by omega), laidTo, List.getD_eq_getElem?_getD, hs]
  rfl
theorem deedTo_sync {p : Plat} {n b : Nat} {L : List ByteArray} : deedTo p n b L (n + 1) = (syncF (deedTo p n b L n)).1 := by
  unfold deedTo
  rw [if_neg (by omega), if_pos (Nat.le_refl _)]
theorem deeds_write {p : Plat} {n b k : Nat} {L : List ByteArray} {s : ByteArray} (h : DeedsOk p n b L) (hk : k < n) (hs : L[k]? = some s) : (writeF (deedTo p n b L k) (sectorN n b k : Nat) s).2 = 0 := by
  have := h.1 k hk
  rw [List.getD_eq_getElem?_getD, hs] at this
  unfold deedTo
  rw [if_pos (by omega)]
  exact this
theorem deeds_sync {p : Plat} {n b : Nat} {L : List ByteArray} (h : DeedsOk p n b L) : (syncF (deedTo p n b L n)).2 = 0 := by
  unfold deedTo
  rw [if_pos (Nat.le_refl _)]
  exact h.2
section
variable {w W : World} {x1 : Nat} {pa pb y z ra rb : Value} {V R C : Array Value} {d : Int} {q : Plat}
theorem sto_turn (hs : StoB w.heap.size x1 #[pa, pb] V d R C 0 0 W) (hx : w.heap.size + 1 + 1 + 1 + 1 + 1 < x1) (hO : PlatOut W w.heap.size (.agg #[y, z]) q) (hB : Below w.heap.size w W) (d' : Int) :
    StoB w.heap.size x1 #[y, z] V d' R C 0 0 ((((W.setCell ⟨w.heap.size, 0, none⟩ y).setCell ⟨w.heap.size, 1, none⟩ z).setCell ⟨x1 + 1, 0, none⟩ (.int .i64 0)).setCell ⟨w.heap.size + 1 + 1, 0, none⟩ (.int .i64 d')) ∧
    PlatOut ((((W.setCell ⟨w.heap.size, 0, none⟩ y).setCell ⟨w.heap.size, 1, none⟩ z).setCell ⟨x1 + 1, 0, none⟩ (.int .i64 0)).setCell ⟨w.heap.size + 1 + 1, 0, none⟩ (.int .i64 d')) w.heap.size (.agg #[y, z]) q ∧
    Below w.heap.size w ((((W.setCell ⟨w.heap.size, 0, none⟩ y).setCell ⟨w.heap.size, 1, none⟩ z).setCell ⟨x1 + 1, 0, none⟩ (.int .i64 0)).setCell ⟨w.heap.size + 1 + 1, 0, none⟩ (.int .i64 d')) := by
  have h1 := hs.set_p hx y z
  have h2 := h1.set_e hx 0
  have h3 := h2.set_d hx d'
  have o1 := (hO.far hs.p (by decide) (by decide) 0 y).far (hs.p.set_ 0 y) (by decide) (by decide) 1 z
  have o2 := o1.far h1.e (by decide) (by decide) 0 (.int .i64 0)
  have o3 := o2.far h2.d (by decide) (by decide) 0 (.int .i64 d')
  exact ⟨h3, o3, ((((hB.setCell (p := ⟨w.heap.size, 0, none⟩) (Nat.le_refl _) _).setCell (p := ⟨w.heap.size, 1, none⟩) (Nat.le_refl _) _).setCell (p := ⟨x1 + 1, 0, none⟩) (by show w.heap.size ≤ x1 + 1; omega) _).setCell (p := ⟨w.heap.size + 1 + 1, 0, none⟩) (by show w.heap.size ≤ w.heap.size + 1 + 1; omega) _)⟩
theorem sto_exit (hs : StoB w.heap.size x1 #[y, z] V d #[ra, rb] C 0 0 W) (hx : w.heap.size + 1 + 1 + 1 + 1 + 1 < x1) (hO : PlatOut W w.heap.size (.agg #[y, z]) q) (hB : Below w.heap.size w W) :
    StoB w.heap.size x1 #[y, z] V d #[y, z] C 0 0 ((((W.setCell ⟨w.heap.size + 1 + 1 + 1, 0, none⟩ y).setCell ⟨w.heap.size + 1 + 1 + 1, 1, none⟩ z).setCell ⟨w.heap.size + 1 + 1 + 1 + 1, 0, none⟩ (.bool false)).setCell ⟨w.heap.size + 1 + 1 + 1 + 1 + 1, 0, none⟩ (.int .i64 0)) ∧
    PlatOut ((((W.setCell ⟨w.heap.size + 1 + 1 + 1, 0, none⟩ y).setCell ⟨w.heap.size + 1 + 1 + 1, 1, none⟩ z).setCell ⟨w.heap.size + 1 + 1 + 1 + 1, 0, none⟩ (.bool false)).setCell ⟨w.heap.size + 1 + 1 + 1 + 1 + 1, 0, none⟩ (.int .i64 0)) w.heap.size (.agg #[y, z]) q ∧
    Below w.heap.size w ((((W.setCell ⟨w.heap.size + 1 + 1 + 1, 0, none⟩ y).setCell ⟨w.heap.size + 1 + 1 + 1, 1, none⟩ z).setCell ⟨w.heap.size + 1 + 1 + 1 + 1, 0, none⟩ (.bool false)).setCell ⟨w.heap.size + 1 + 1 + 1 + 1 + 1, 0, none⟩ (.int .i64 0)) := by
  have h1 := hs.set_r hx y z
  have h2 := h1.set_r1 hx
  have h3 := h2.set_r2 hx 0
  have o1 := (hO.far hs.r0 (by decide) (by decide) 0 y).far (hs.r0.set_ 0 y) (by decide) (by decide) 1 z
  have o2 := o1.far h1.r1 (by decide) (by decide) 0 (.bool false)
  have o3 := o2.far h2.r2 (by decide) (by decide) 0 (.int .i64 0)
  exact ⟨h3, o3, ((((hB.setCell (p := ⟨w.heap.size + 1 + 1 + 1, 0, none⟩) (by show w.heap.size ≤ w.heap.size + 1 + 1 + 1; omega) _).setCell (p := ⟨w.heap.size + 1 + 1 + 1, 1, none⟩) (by show w.heap.size ≤ w.heap.size + 1 + 1 + 1; omega) _).setCell (p := ⟨w.heap.size + 1 + 1 + 1 + 1, 0, none⟩) (by show w.heap.size ≤ w.heap.size + 1 + 1 + 1 + 1; omega) _).setCell (p := ⟨w.heap.size + 1 + 1 + 1 + 1 + 1, 0, none⟩) (by show w.heap.size ≤ w.heap.size + 1 + 1 + 1 + 1 + 1; omega) _)⟩
end
section
variable {w W : World} {x1 : Nat} {P y z ra rb : Value} {V P0 C : Array Value} {d : Int} {q : Plat}
theorem sto_end (hs : StoB w.heap.size x1 P0 V d #[ra, rb] C 0 0 W) (hO : PlatOut W w.heap.size (.agg #[y, z]) q) (hB : Below w.heap.size w W) (dn : Bool) (er : Int) :
    (Blk ((((W.setCell ⟨w.heap.size + 1 + 1 + 1, 0, none⟩ y).setCell ⟨w.heap.size + 1 + 1 + 1, 1, none⟩ z).setCell ⟨w.heap.size + 1 + 1 + 1 + 1, 0, none⟩ (.bool dn)).setCell ⟨w.heap.size + 1 + 1 + 1 + 1 + 1, 0, none⟩ (.int .i64 er)) (w.heap.size + 1 + 1 + 1) 42 #[y, z] ∧
    Blk ((((W.setCell ⟨w.heap.size + 1 + 1 + 1, 0, none⟩ y).setCell ⟨w.heap.size + 1 + 1 + 1, 1, none⟩ z).setCell ⟨w.heap.size + 1 + 1 + 1 + 1, 0, none⟩ (.bool dn)).setCell ⟨w.heap.size + 1 + 1 + 1 + 1 + 1, 0, none⟩ (.int .i64 er)) (w.heap.size + 1 + 1 + 1 + 1) 4 #[.bool dn] ∧
    Blk ((((W.setCell ⟨w.heap.size + 1 + 1 + 1, 0, none⟩ y).setCell ⟨w.heap.size + 1 + 1 + 1, 1, none⟩ z).setCell ⟨w.heap.size + 1 + 1 + 1 + 1, 0, none⟩ (.bool dn)).setCell ⟨w.heap.size + 1 + 1 + 1 + 1 + 1, 0, none⟩ (.int .i64 er)) (w.heap.size + 1 + 1 + 1 + 1 + 1) 37 #[.int .i64 er]) ∧
    PlatOut ((((W.setCell ⟨w.heap.size + 1 + 1 + 1, 0, none⟩ y).setCell ⟨w.heap.size + 1 + 1 + 1, 1, none⟩ z).setCell ⟨w.heap.size + 1 + 1 + 1 + 1, 0, none⟩ (.bool dn)).setCell ⟨w.heap.size + 1 + 1 + 1 + 1 + 1, 0, none⟩ (.int .i64 er)) w.heap.size (.agg #[y, z]) q ∧
    Below w.heap.size w ((((W.setCell ⟨w.heap.size + 1 + 1 + 1, 0, none⟩ y).setCell ⟨w.heap.size + 1 + 1 + 1, 1, none⟩ z).setCell ⟨w.heap.size + 1 + 1 + 1 + 1, 0, none⟩ (.bool dn)).setCell ⟨w.heap.size + 1 + 1 + 1 + 1 + 1, 0, none⟩ (.int .i64 er)) := by
  have k0 : w.heap.size + 1 + 1 + 1 + 1 ≠ w.heap.size + 1 + 1 + 1 := by omega
  have k1 : w.heap.size + 1 + 1 + 1 + 1 + 1 ≠ w.heap.size + 1 + 1 + 1 := by omega
  have k2 : w.heap.size + 1 + 1 + 1 ≠ w.heap.size + 1 + 1 + 1 + 1 := by omega
  have k3 : w.heap.size + 1 + 1 + 1 + 1 + 1 ≠ w.heap.size + 1 + 1 + 1 + 1 := by omega
  have k4 : w.heap.size + 1 + 1 + 1 ≠ w.heap.size + 1 + 1 + 1 + 1 + 1 := by omega
  have k5 : w.heap.size + 1 + 1 + 1 + 1 ≠ w.heap.size + 1 + 1 + 1 + 1 + 1 := by omega
  have a0 := (hs.r0.set_ 0 y).set_ 1 z
  have b0 := (hs.r1.far (p := ⟨w.heap.size + 1 + 1 + 1, 0, none⟩) k0 y).far (p := ⟨w.heap.size + 1 + 1 + 1, 1, none⟩) k0 z
  have c0 := (hs.r2.far (p := ⟨w.heap.size + 1 + 1 + 1, 0, none⟩) k1 y).far (p := ⟨w.heap.size + 1 + 1 + 1, 1, none⟩) k1 z
  have o1 := (hO.far hs.r0 (by decide) (by decide) 0 y).far (hs.r0.set_ 0 y) (by decide) (by decide) 1 z
  have o2 := o1.far b0 (by decide) (by decide) 0 (.bool dn)
  have c1 := c0.far (p := ⟨w.heap.size + 1 + 1 + 1 + 1, 0, none⟩) k3 (.bool dn)
  have o3 := o2.far c1 (by decide) (by decide) 0 (.int .i64 er)
  refine ⟨⟨(a0.far (p := ⟨w.heap.size + 1 + 1 + 1 + 1, 0, none⟩) k2 _).far (p := ⟨w.heap.size + 1 + 1 + 1 + 1 + 1, 0, none⟩) k4 _, (b0.set_ 0 _).far (p := ⟨w.heap.size + 1 + 1 + 1 + 1 + 1, 0, none⟩) k5 _, c1.set_ 0 _⟩, o3, ((((hB.setCell (p := ⟨w.heap.size + 1 + 1 + 1, 0, none⟩) (by show w.heap.size ≤ w.heap.size + 1 + 1 + 1; omega) _).setCell (p := ⟨w.heap.size + 1 + 1 + 1, 1, none⟩) (by show w.heap.size ≤ w.heap.size + 1 + 1 + 1; omega) _).setCell (p := ⟨w.heap.size + 1 + 1 + 1 + 1, 0, none⟩) (by show w.heap.size ≤ w.heap.size + 1 + 1 + 1 + 1; omega) _).setCell (p := ⟨w.heap.size + 1 + 1 + 1 + 1 + 1, 0, none⟩) (by show w.heap.size ≤ w.heap.size + 1 + 1 + 1 + 1 + 1; omega) _)⟩
end
end Go.Proofs.YtpkomloblhbkiaaGreatDoor
/- top: many, short, rows. -/
namespace Go.Proofs.YtpkomloblhbkiaaGreatDoor
open Go.RowKit
set_option maxHeartbeats 400000 in
theorem topmany_any (c : UInt8) (n : Nat) (w : World) (hn : n ≤ 1000000) :
    Calls Tryz.prog 19 #[.int .u8 c.toNat, .int .i64 n] w fun e w' => e = .returned (.string (tmanyB c n)) ∧ Below w.heap.size w w' := by
  have hmk := run_mkrow (P := Tryz.prog) 113 5 (.int .u8 0) 1 Tryz.underlying113 byte_info rfl n (by omega) (by omega)
  have hR0 : Hid (Row vB (w.alloc (.cells (List.replicate n (Value.int .u8 0)).toArray 5)) w.heap.size 5 (List.replicate 0 c ++ List.replicate (n - 0) 0)) := by
    refine Lib.hid ?_
    have := Row.new (f := vB) w 5 n 0
    rw [show vB 0 = Value.int .u8 0 from rfl] at this
    rw [List.replicate_zero, List.nil_append, Nat.sub_zero]
    exact this
  go_enter Tryz.func19, Tryz.ntmps19
  go_wp2_with fail
  clear hmk
  go_loopw [6] (fun iv wr => ∃ k : Nat, k ≤ n ∧ iv = .int .i64 k ∧ Hid (Row vB wr w.heap.size 5 (List.replicate k c ++ List.replicate (n - k) 0)) ∧ Below w.heap.size w wr) (fun iv _ => n - (intOf iv).toNat)
  case atStart => exact ⟨0, by omega, rfl, hR0, by go_grown⟩
  case round =>
    clear hR0
    obtain ⟨k, hk, rfl, HR, hB⟩ := hrel
    by_cases hlt : k < n
    · obtain ⟨x, hx⟩ : ∃ x, (List.replicate k c ++ List.replicate (n - k) 0)[k]? = some x := ⟨_, List.getElem?_eq_getElem (by simp; omega)⟩
      have c0 := HR.out.get hx
      have f0 := HR.out.free k
      have HE := Lib.hid (tmany_step c n k hlt)
      have hlt2 := HR.out.lt
      clear hx
      go_wp2_with fail
      go_roundw
      case rel => exact ⟨k + 1, by omega, by go_num, Lib.hid (by have := HR.out.set_ k c; rw [HE.out] at this; exact this), by go_grown⟩
      case measure => simp [intOf]; omega
    · obtain rfl : k = n := by omega
      have hrow : Blk wr w.heap.size 5 ((List.replicate k c).map vB).toArray := by
        have := HR.out
        simpa [Row] using this
      have hcv := run_blk (P := Tryz.prog) (L := List.replicate k c) (n := k) (c := k) 113 9 5 Tryz.underlying113 Tryz.underlying5 Tryz.underlying9 (by simp) hrow
      clear hrow
      go_wp2
      go_ret
      exact ⟨rfl, hB⟩
def longT (s : ByteArray) : Bool := decide (200 < s.size)
set_option maxHeartbeats 1000000 in
theorem short_any (L : List ByteArray) (A : Option Addr) (n c : Nat) (w : World) (hL : SlR encS 1 w w.heap.size A n L) (hn : n ≤ 1000) :
    Calls Tryz.prog 9 #[.slice A n c] w fun e w' => e = .returned (.bool (!L.any longT)) ∧ w = w' := by
  have hl := hL.1
  rcases hL.2 with h0 | ⟨b, off, rfl, hb, hC⟩
  · obtain rfl : L = [] := List.eq_nil_of_length_eq_zero (by omega)
    subst h0
    clear hL hl
    go_enter Tryz.func9, Tryz.ntmps9
    go_wp2_with fail
    go_loopw [3] (fun iv wr => iv = .int .i64 0 ∧ Hid (w = wr)) (fun iv _ => 0)
    case atStart => exact ⟨rfl, Lib.hid rfl⟩
    case round =>
      obtain ⟨rfl, HW⟩ := hrel
      go_wp2_with fail
      go_ret
      exact ⟨rfl, HW.out⟩
  · have HC := Lib.hid (fun (i : Nat) (x : ByteArray) (hx : L[i]? = some x) => hC.str hx)
    have HL := Lib.hid hl
    have HV : Hid (∀ (i : Nat) (x : ByteArray), L[i]? = some x → 200 < x.size → (!L.any longT) = false) := Lib.hid (fun i x hx h => by
      have : L.any longT = true := List.any_eq_true.2 ⟨x, List.mem_of_getElem? hx, by simp [longT, h]⟩
      rw [this]; rfl)
    have HV2 : Hid ((∀ (i : Nat) (x : ByteArray), L[i]? = some x → x.size ≤ 200) → (!L.any longT) = true) := Lib.hid (fun h => by
      have : L.any longT = false := List.any_eq_false.2 (fun x hx => by
        obtain ⟨i, hi⟩ := List.getElem?_of_mem hx
        have := h i x hi
        simp [longT]; omega)
      rw [this]; rfl)
    generalize (!L.any longT) = V at *
    clear hL hl hC hb
    go_enter Tryz.func9, Tryz.ntmps9
    go_wp2_with fail
    go_loopw [3] (fun iv wr => ∃ i : Nat, i ≤ n ∧ iv = .int .i64 i ∧ Hid (∀ (j : Nat) (x : ByteArray), j < i → L[j]? = some x → x.size ≤ 200) ∧ Hid (w = wr)) (fun iv _ => n - (intOf iv).toNat)
    case atStart => exact ⟨0, by omega, rfl, Lib.hid (fun j x hj _ => by omega), Lib.hid rfl⟩
    case round =>
      obtain ⟨i, hi, rfl, HU, HB⟩ := hrel
      by_cases hlt : i < n
      · obtain ⟨x, hx⟩ : ∃ x, L[i]? = some x := ⟨_, List.getElem?_eq_getElem (by rw [HL.out]; exact hlt)⟩
        have cx := HC.out i x hx
        rw [HB.out] at cx
        have i0 : (0 : Int) ≤ (i : Int) := by omega
        have i1 : (i : Int) < (n : Int) := by omega
        have HX := Lib.hid hx
        clear hx
        by_cases hbig : 200 < x.size
        · have hVV := HV.out i x HX.out hbig
          subst hVV
          go_wp2_with fail
          go_ret
          exact ⟨rfl, HB.out⟩
        · have hbig2 : ¬ (200 : Int) < (x.size : Int) := by omega
          go_wp2_with fail
          go_roundw
          case rel => exact ⟨i + 1, by omega, by go_num, Lib.hid (fun j y hj hy => by
            by_cases hji : j = i
            · subst hji
              rw [HX.out] at hy
              injection hy with hy
              subst hy
              omega
            · exact HU.out j y (by omega) hy), HB⟩
          case measure => simp [intOf]; omega
      · have i1 : ¬ (i : Int) < (n : Int) := by omega
        have hVV := HV2.out (fun j x hx => HU.out j x (by have := (List.getElem?_eq_some_iff.1 hx).1; have := HL.out; omega) hx)
        subst hVV
        go_wp2_with fail
        go_ret
        exact ⟨rfl, HB.out⟩
end Go.Proofs.YtpkomloblhbkiaaGreatDoor
namespace Go.Proofs.YtpkomloblhbkiaaGreatDoor
open Go.RowKit
theorem show_hide {key nonce : ByteArray} {i : Int} {s : ByteArray} (h : (hideV key nonce i s).2 = 0) : showV key i (hideV key nonce i s).1 = (s, 0) := by
  obtain ⟨h1, h2, h3, h4, h5⟩ := hide_ok h
  have hz := hide_size h
  have hs : sealF key nonce (besideB i.toNat) s = ((sealF key nonce (besideB i.toNat) s).1, 0) := Prod.ext rfl h4
  have ho := seal_open hs
  rw [h5] at hz ⊢
  generalize (sealF key nonce (besideB i.toNat) s).1 = x at *
  have hne : (nonce ++ x).toList ≠ [] := fun e => by
    have e2 : (nonce ++ x).toList.length = (nonce ++ x).size := by rw [Lib.toList_data]; exact Array.length_toList
    rw [e] at e2
    simp only [List.length_nil] at e2
    omega
  have f1 := front_append nonce x
  have f2 := back_append nonce x
  rw [h3] at f1 f2
  unfold showV
  rw [if_neg (by rw [h1]; decide), if_neg hne, if_neg (by omega), f1, f2, ho, if_pos rfl]
theorem hide_front {key nonce : ByteArray} {i : Int} {s : ByteArray} (h : (hideV key nonce i s).2 = 0) : (hideV key nonce i s).1.extract 0 12 = nonce := by
  obtain ⟨_, _, h3, _, h5⟩ := hide_ok h
  have f1 := front_append nonce (sealF key nonce (besideB i.toNat) s).1
  rw [h3] at f1
  rw [h5, f1]
/-- a block is hidden where its place, its text, the key and the nonce are right -/
theorem hide_fits {key nonce : ByteArray} {i : Int} {s : ByteArray} (hp : placeI i = true) (hs : s.size ≤ 64) (hk : key.size = 32) (hn : nonce.size = 12) : (hideV key nonce i s).2 = 0 := by
  have hi : 0 ≤ i ∧ i < 64 := by simpa [placeI] using hp
  have hb := beside_size (show i.toNat < 64 by omega)
  have h4 : (sealF key nonce (besideB i.toNat) s).2 = 0 := by
    unfold sealF
    repeat' split
    all_goals first | rfl | (exfalso; omega)
  unfold hideV
  rw [if_neg (by rw [hp]; decide), if_neg (by omega), if_pos h4]
end Go.Proofs.YtpkomloblhbkiaaGreatDoor
