/- As RoundReg, at the wide fence, outside of rounds; regions of whose operations the last ones store (OrderT). -/
import Derived.Test.YtpkomloblhbkiaaGreatDoorWordA
import Derived.RangeFuncWrites
import Derived.RangeFuncNested
import Derived.RangeFuncBound
import Derived.RangeFuncCalls
import Derived.RangeFuncLeaves
import Derived.Test.YtpkomloblhbkiaaGreatDoorVauG
import Derived.Test.YtpkomloblhbkiaaGreatDoorItoa
import Derived.Test.YtpkomloblhbkiaaGreatDoorRowsOpen
set_option linter.unusedVariables false
set_option linter.unusedSimpArgs false
/- As TurnN, where the iterator lays blocks between its yields, what comes next may speak of the world (Nx), and the body may return. -/
namespace Go.Proofs.YtpkomloblhbkiaaGreatDoor
open Go.RowKit
section
variable {F : Fence} {n : Nat} {P : Program}
def SeqStopsN {α : Type} (F : Fence) (n : Nat) (P : Program) (gf : Nat) (lb : Array Value) (encs : α → Array Value) (S : List α → Prop) (Nx : List α → α → World → Prop) (Kp : World → World → Prop) (w : World) : Prop :=
  ∀ (l : Nat) (J Jx : List α → World → Prop) (W : World), Below w.heap.size w W → (∀ s A B, J s A → Below A.heap.size A B → J s B) → (∀ s A B, Jx s A → Below A.heap.size A B → Jx s B) →
    (∀ pre x W1, J pre W1 → Nx pre x W1 → YieldAt F (n - 1) P l (encs x) W1 fun e W' => (e = .returned (.bool true) ∧ J (pre ++ [x]) W' ∧ Kp W1 W') ∨ (e = .returned (.bool false) ∧ Jx (pre ++ [x]) W')) → J [] W →
    CallsIn F n P gf (#[.func (.yield l) #[] #[]] ++ lb) W fun e W' => (∃ v, e = .returned v) ∧ ((∃ xs, S xs ∧ J xs W') ∨ ∃ pre, Jx pre W')
theorem wpIn_rangeFunc_stopN {α : Type} {g : Operand} {ps : Array Tmp} {assign body : Code} {Q : Exit → Act → World → Prop} {a : Act} {w : World}
    (hro : F.round = none) (h1 : 1 ≤ n) {gf : Nat} {lb : Array Value} (hg : a.eval g = .func (.func gf) #[] lb) (hFg : F.fn gf) (eg : ∀ args w, (callFunc gf args).run P w = .ok (.enter gf args) w)
    {encs : α → Array Value} {S : List α → Prop} {Nx : List α → α → World → Prop} {Kp : World → World → Prop} (hseq : SeqStopsN F (n - 1) P gf lb encs S Nx Kp w) (hps : ∀ x, (encs x).size = ps.size)
    (hKt : ∀ {A B C : World}, Kp A B → Kp B C → Kp A C) (hKb : ∀ (W : World) (l : Nat) (o' : Obj), w.heap.size ≤ l → Kp W (W.putObj l o'))
    (I Ix : List α → World → Prop) (hI : OwnFrom w.heap.size I) (hIx : OwnFrom w.heap.size Ix) (hNx : ∀ pre x, OwnFrom w.heap.size (fun (_ : Unit) W => Nx pre x W))
    (hIt : ∀ s A B, I s A → Below A.heap.size A B → I s B) (hIxt : ∀ s A B, Ix s A → Below A.heap.size A B → Ix s B) (h0 : I [] w) (a₁ : α → Act)
    (hassign : ∀ (l : Nat) (x : α) (W : World) (K : Act → World → Prop), K (a₁ x) W →
      assign.wpIn (F.inRound l) (n - 1 - 1) P (Exit.then K (fun _ _ _ => False)) { tmps := (ps.zip (encs x)).foldl (fun t (p, v) => t.setIfInBounds p v) a.tmps, defers := [] } W)
    (hbody : ∀ (l : Nat) (pre : List α) (x : α) (W : World), w.heap.size ≤ l → (∃ r, W.heap[l]? = some (.loop r)) → I pre W → Nx pre x W →
      body.wpIn (F.inRound l) (n - 1 - 1) P (fun e _ W' => KeepsFrom w.heap.size W W' ∧ ((e = .normal ∧ Kp W W' ∧ I (pre ++ [x]) W') ∨ (e = .ret ∧ Ix (pre ++ [x]) W'))) (a₁ x) W)
    (hdone : ∀ (D : Nat) (xs : List α) (W : World), w.heap.size ≤ D → S xs → I xs W → W.heap[D]? = some (.deferred (some [])) → Q .normal { a with defers := { target := .collected D, args := #[] } :: a.defers } W)
    (hstop : ∀ (D : Nat) (pre : List α) (W : World), w.heap.size ≤ D → Ix pre W → W.heap[D]? = some (.deferred (some [])) → Code.ret.wpIn F n P Q { a with defers := { target := .collected D, args := #[] } :: a.defers } W) :
    (Code.rangeFunc g ps assign body).wpIn F n P Q a w := by
  refine wpIn_rangeFunc fun fn hfn => ?_
  rw [hro]
  let lp (st : LoopState) (pe : Option Code) : Loop := { state := st, pending := pe, fn, tmps := a.tmps, params := ps, assign, body, defers := w.heap.size }
  obtain ⟨W1, hW1⟩ : ∃ W1, W1 = (w.alloc (.deferred (some []))).alloc (.loop (lp .ready none)) := ⟨_, rfl⟩
  have dL : W1.heap[w.heap.size + 1]? = some (.loop (lp .ready none)) := by
    rw [hW1]
    have := World.alloc_heap_new (w.alloc (.deferred (some []))) (.loop (lp .ready none))
    rwa [World.size_alloc] at this
  have dD : W1.heap[w.heap.size]? = some (.deferred (some [])) := by
    rw [hW1]
    exact (Below.heap_alloc _ _ _ (by simp)).trans (World.alloc_heap_new w _)
  have dI : I [] W1 := by rw [hW1]; exact hI.alloc _ (hI.alloc _ h0)
  have dB : Below w.heap.size w W1 := by rw [hW1]; exact ((Below.refl _ w).alloc (Nat.le_refl _) _).alloc (by simp) _
  refine ⟨w.heap.size + 1, [{ target := .collected w.heap.size, args := #[] }], W1, { target := .fn (.func gf) lb, args := #[.func (.yield (w.heap.size + 1)) #[] #[]] }, W1, gf,
    #[.func (.yield (w.heap.size + 1)) #[] #[]] ++ lb, W1, by rw [hW1]; exact run_enterLoop_outer _ _ _ _ _, by simp only [resolve, hg]; simp [go_sem], ?_, by simp [invoke, go_sem, eg], fun _ => h1, ?_⟩
  · intro f' hf'
    simp [Target.leads] at hf'
    subst hf'
    exact hFg
  have hgo : ∀ {A B : World} {i : Nat} {o : Obj}, Below A.heap.size A B → A.heap[i]? = some o → B.heap[i]? = some o := fun hb h =>
    (hb.block _ (Array.getElem?_eq_some_iff.1 h).1).trans h
  refine (hseq (w.heap.size + 1) (fun pre W => I pre W ∧ W.heap[w.heap.size + 1]? = some (.loop (lp .ready none)) ∧ W.heap[w.heap.size]? = some (.deferred (some [])))
    (fun pre W => Ix pre W ∧ W.heap[w.heap.size + 1]? = some (.loop (lp .done (some .ret))) ∧ W.heap[w.heap.size]? = some (.deferred (some []))) W1 dB ?_ ?_ ?_ ⟨dI, dL, dD⟩).mono ?_
  · rintro s A B ⟨q1, q2, q3⟩ ht
    exact ⟨hIt s A B q1 ht, hgo ht q2, hgo ht q3⟩
  · rintro s A B ⟨q1, q2, q3⟩ ht
    exact ⟨hIxt s A B q1 ht, hgo ht q2, hgo ht q3⟩
  · rintro pre x W ⟨q1, q2, q3⟩ hnx
    have lt1 : w.heap.size + 1 < W.heap.size := (Array.getElem?_eq_some_iff.1 q2).1
    refine ⟨fn, _, assign, body, run_yield (P := P) (args := encs x) q2 (hps x), roundIn_of_wpIn hfn (hassign _ x W _ ?_)⟩
    refine ⟨_, run_beginRound q2 rfl, ?_⟩
    have b2 : (W.putObj (w.heap.size + 1) (.loop { lp .ready none with state := .busy })).heap[w.heap.size + 1]? = some (.loop { lp .ready none with state := .busy }) := World.putObj_heap_same lt1
    have b3 : (W.putObj (w.heap.size + 1) (.loop { lp .ready none with state := .busy })).heap[w.heap.size]? = some (.deferred (some [])) := (World.putObj_heap_other (by omega)).trans q3
    refine wpIn_mono (hbody _ pre x _ (by omega) ⟨_, b2⟩ (hI.putObj _ q1 (by omega) q2 rfl) ((hNx pre x).putObj (s := ()) _ hnx (by omega) q2 rfl)) ?_
    rintro e a3 W3 ⟨k1, ⟨rfl, k2, k3⟩ | ⟨rfl, k3⟩⟩
    · have c2 := k1.same _ _ (by omega) b2 rfl
      have c3 := k1.same _ _ (Nat.le_refl _) b3 rfl
      have hend := run_endRound (P := P) none c2
      exact ⟨_, _, hend, .inl ⟨rfl, ⟨hI.putObj _ k3 (by omega) c2 rfl, World.putObj_heap_same (Array.getElem?_eq_some_iff.1 c2).1, (World.putObj_heap_other (by omega)).trans c3⟩, hKt (hKt (hKb _ _ _ (by omega)) k2) (hKb _ _ _ (by omega))⟩⟩
    · have c2 := k1.same _ _ (by omega) b2 rfl
      have c3 := k1.same _ _ (Nat.le_refl _) b3 rfl
      have hend := run_endRound (P := P) (some .ret) c2
      exact ⟨_, _, hend, .inr ⟨rfl, hIx.putObj _ k3 (by omega) c2 rfl, World.putObj_heap_same (Array.getElem?_eq_some_iff.1 c2).1, (World.putObj_heap_other (by omega)).trans c3⟩⟩
  · rintro e W2 ⟨⟨v, rfl⟩, ⟨xs, hS, q1, q2, q3⟩ | ⟨pre, q1, q2, q3⟩⟩
    · exact ⟨none, _, run_endLoop (P := P) q2 (by simp [lp]), hdone _ xs _ (Nat.le_refl _) hS (hI.putObj _ q1 (by omega) q2 rfl) ((World.putObj_heap_other (by omega)).trans q3)⟩
    · exact ⟨some .ret, _, run_endLoop (P := P) q2 (by simp [lp]), hstop _ pre _ (Nat.le_refl _) (hIx.putObj _ q1 (by omega) q2 rfl) ((World.putObj_heap_other (by omega)).trans q3)⟩
end
end Go.Proofs.YtpkomloblhbkiaaGreatDoor
/- vault: deeds, and its iterator. -/
namespace Go.Proofs.YtpkomloblhbkiaaGreatDoor
open Go.RowKit Go.Shelf
attribute [local go_sem] Oper.semAt_some
theorem deeds_in (F : Fence) (n : Nat) (hf : F.fn 52) (hro : F.round = none) (N a g : Int) (A : Option Addr) (k c : Nat) (root : ByteArray) (B : Option Addr) (m d : Nat) (r2 : ByteArray) (w : World) :
    CallsIn F n Tryz.prog 52 #[chestW N a g A k c root, .agg #[.slice B m d, .string r2]] w fun e w' => e = .returned (.func (.func 91) #[] #[.pointer (some ⟨w.heap.size + 1, 0, none⟩), .pointer (some ⟨w.heap.size, 0, none⟩)]) ∧
      (w.alloc (.cells #[.int .i64 N, .int .i64 a, .int .i64 g, .slice A k c, .string root] 71)).alloc (.cells #[.slice B m d, .string r2] 36) = w' := by
  unfold chestW
  refine callsIn_of_wp Tryz.func52 rfl hf ?_ hro
  simp only [Tryz.ntmps52, List.size_toArray, List.length_cons, List.length_nil, Nat.reduceAdd, Nat.reduceSub, Array.replicate_succ, Array.replicate_zero, List.push_toArray, List.append_toArray, List.nil_append, List.cons_append]
  gi_wp2
  go_ret
  exact ⟨rfl, rfl⟩
def deedV (cb : Nat) : Option (Nat × Nat) → Array Value
  | some (ib, sb) => #[.func (.func 92) #[] #[.pointer (some ⟨cb, 0, none⟩), .pointer (some ⟨ib, 0, none⟩), .pointer (some ⟨sb, 0, none⟩)]]
  | none => #[.func (.func 86) #[] #[]]
def deedNx (L : List ByteArray) (base : Nat) (pre : List (Option (Nat × Nat))) (x : Option (Nat × Nat)) (W : World) : Prop := match x with
  | some (ib, sb) => ∃ s, L[pre.length]? = some s ∧ base ≤ ib ∧ base ≤ sb ∧ Blk W ib 3 #[.int .i64 pre.length] ∧ Blk W sb 9 #[.string s]
  | none => pre.length = L.length
set_option maxHeartbeats 1000000 in
theorem deeds1_in (F : Fence) (n : Nat) (hf : F.fn 91) (hro : F.round = none) (hn : 1 ≤ n) (l vb cb base : Nat) (L : List ByteArray) (B : Option Addr) (m d : Nat) (r2 : ByteArray) (J Jx : List (Option (Nat × Nat)) → World → Prop) (Kp : World → World → Prop)
    (hKr : ∀ A, Kp A A) (hKt : ∀ A B C, Kp A B → Kp B C → Kp A C) (hKg : ∀ A B, Below A.heap.size A B → Kp A B) (hKb : ∀ A B, Kp A B → base ≤ A.heap.size → base ≤ B.heap.size)
    (hJ : ∀ s A B, J s A → Below A.heap.size A B → J s B) (hJx : ∀ s A B, Jx s A → Below A.heap.size A B → Jx s B)
    (hY : ∀ pre x W, J pre W → deedNx L base pre x W → YieldAt F (n - 1) Tryz.prog l (deedV cb x) W fun e W' =>
      (e = .returned (.bool true) ∧ J (pre ++ [x]) W' ∧ Kp W W') ∨ (e = .returned (.bool false) ∧ Jx (pre ++ [x]) W'))
    (W : World) (hv : ∀ W', Kp W W' → Blk W' vb 36 #[.slice B m d, .string r2]) (hr : ∀ W', Kp W W' → ∀ (i : Nat) (s : ByteArray), L[i]? = some s → ∃ b off, B = some ⟨b, off, none⟩ ∧ W'.cell? ⟨b, off + i, none⟩ = some (.string s)) (hm : L.length = m) (hm2 : m ≤ 1000) (hb : base ≤ W.heap.size) (h0 : J [] W) :
    CallsIn F n Tryz.prog 91 #[.func (.yield l) #[] #[], .pointer (some ⟨vb, 0, none⟩), .pointer (some ⟨cb, 0, none⟩)] W fun e W' => (∃ v, e = .returned v) ∧
      ((∃ ys, ys.length = m + 1 ∧ J ys W') ∨ (∃ pre, Jx pre W')) := by
  have HY := Lib.hid hY
  have HK := Lib.hid (And.intro hKt (And.intro hKg hKb))
  have HV := Lib.hid hv
  have HR := Lib.hid hr
  have HJ := Lib.hid (And.intro hJ hJx)
  have HL := Lib.hid (And.intro hm hb)
  have q0 := (hv W (hKr W)).cells 0 _ rfl
  simp only [List.getElem_toArray, List.getElem_cons_zero, List.getElem_cons_succ] at q0
  clear hY hKt hKg hKb hv hr hJ hJx hm hb
  refine callsIn_of_wp Tryz.func91 rfl hf ?_ hro
  simp only [Tryz.ntmps91, List.size_toArray, List.length_cons, List.length_nil, Nat.reduceAdd, Nat.reduceSub, Array.replicate_succ, Array.replicate_zero, List.push_toArray, List.append_toArray, List.nil_append, List.cons_append]
  gi_wp2
  gi_loopw [10] (fun v wr => ∃ (k : Nat) (pre : List (Option (Nat × Nat))), k ≤ m ∧ v = .int .i64 k ∧ pre.length = k ∧ Hid (J pre wr) ∧ Hid (Kp W wr)) (fun v _ => m - (intOf v).toNat)
  case atStart => exact ⟨0, [], by omega, rfl, rfl, Lib.hid h0, Lib.hid (hKr _)⟩
  case round =>
    obtain ⟨k, pre, hk, rfl, hpre, HJk, HKk⟩ := hrel
    by_cases hlt : k < m
    · obtain ⟨s, hs⟩ : ∃ s, L[k]? = some s := ⟨_, List.getElem?_eq_getElem (by rw [HL.out.1]; exact hlt)⟩
      obtain ⟨b, off, rfl, cs⟩ := HR.out wr HKk.out k s hs
      have i0 : (0 : Int) ≤ (k : Int) := by omega
      have i1 : (k : Int) < (m : Int) := by omega
      have HS := Lib.hid hs
      clear hs
      have hg : Below wr.heap.size wr ((wr.alloc (.cells #[.int .i64 k] 3)).alloc (.cells #[.string s] 9)) := ((Below.refl _ _).alloc (Nat.le_refl _) _).alloc (by simp) _
      have hbw : base ≤ wr.heap.size := HK.out.2.2 _ _ HKk.out HL.out.2
      have hnx : deedNx L base pre (some (wr.heap.size, wr.heap.size + 1)) ((wr.alloc (.cells #[.int .i64 k] 3)).alloc (.cells #[.string s] 9)) :=
        ⟨s, by rw [hpre]; exact HS.out, hbw, by omega, by rw [hpre]; exact (Blk.new _ _ _).alloc _, Blk.new_at (by simp) _ _⟩
      obtain ⟨fn, tmps, assign, body, hy, hR⟩ := HY.out pre _ _ (HJ.out.1 _ _ _ HJk.out hg) hnx
      unfold deedV at hy
      dsimp only at hy
      have HRR := Lib.hid hR
      have HGG := Lib.hid (HK.out.2.1 _ _ hg)
      clear hR hg hnx hbw
      gi_wp2
      refine HRR.out.mono ?_
      rintro e W3 (⟨rfl, hJ3, hk3⟩ | ⟨rfl, hJx3⟩)
      · have HJ3 := Lib.hid hJ3
        have HK3 := Lib.hid (HK.out.1 _ _ _ HKk.out (HK.out.1 _ _ _ HGG.out hk3))
        clear hJ3 hk3
        gi_wp2
        go_roundw
        case rel => exact ⟨k + 1, _, by omega, by go_num, by rw [List.length_append, hpre]; rfl, HJ3, HK3⟩
        case measure => simp [intOf]; omega
      · have HJ3 := Lib.hid hJx3
        clear hJx3
        gi_wp2
        refine bodyPost_ret (results_none rfl _ _ _) rfl ?_
        exact ⟨⟨_, rfl⟩, .inr ⟨_, HJ3.out⟩⟩
    · have i1 : ¬ (k : Int) < (m : Int) := by omega
      have hnx : deedNx L base pre none wr := by show pre.length = L.length; rw [HL.out.1]; omega
      obtain ⟨fn, tmps, assign, body, hy, hR⟩ := HY.out pre none _ HJk.out hnx
      unfold deedV at hy
      dsimp only at hy
      have HRR := Lib.hid hR
      clear hR hnx
      gi_wp2
      refine HRR.out.mono ?_
      rintro e W3 (⟨rfl, hJ3, hk3⟩ | ⟨rfl, hJx3⟩)
      · have HJ3 := Lib.hid hJ3
        clear hJ3 hk3
        gi_wp2
        go_end0
        exact ⟨⟨_, rfl⟩, .inl ⟨_, by rw [List.length_append, hpre]; simp; omega, HJ3.out⟩⟩
      · have HJ3 := Lib.hid hJx3
        clear hJx3
        gi_wp2
        go_end0
        exact ⟨⟨_, rfl⟩, .inr ⟨_, HJ3.out⟩⟩
end Go.Proofs.YtpkomloblhbkiaaGreatDoor
/- vault, plain: the deeds of a Store. -/
namespace Go.Proofs.YtpkomloblhbkiaaGreatDoor
open Go.RowKit
/-- the platter behind the first k blocks -/
def laidTo (p : Plat) (n b : Nat) (L : List ByteArray) : Nat → Plat
  | 0 => p
  | k + 1 => (writeF (laidTo p n b L k) (sectorN n b k : Nat) (L.getD k ByteArray.empty)).1
/-- the platter behind the first k deeds: the blocks, and a Sync -/
def deedTo (p : Plat) (n b : Nat) (L : List ByteArray) (k : Nat) : Plat := if k ≤ n then laidTo p n b L k else (syncF (laidTo p n b L n)).1
/-- no deed is refused -/
def DeedsOk (p : Plat) (n b : Nat) (L : List ByteArray) : Prop := (∀ k, k < n → (writeF (laidTo p n b L k) (sectorN n b k : Nat) (L.getD k ByteArray.empty)).2 = 0) ∧ (syncF (laidTo p n b L n)).2 = 0
/-- what a Store makes, D deeds being told -/
def storeF (p : Plat) (n b g : Nat) (v : Vol) (D : Nat) : Plat × Bool × Int :=
  if D ≤ n then (deedTo p n b v.blocks D, false, 0) else putF (deedTo p n b v.blocks (n + 1)) 0 (vheadB g b v.root) ((D - (n + 1) : Nat) : Int)
theorem sector_lt {n b k : Nat} (hb : b ≤ 1) (hk : k < n) : sectorN n b k < 3 + 2 * n := by
  unfold sectorN
  have h : b = 0 ∨ b = 1 := by omega
  rcases h with rfl | rfl <;> omega
theorem sector_ne {n a b i k : Nat} (ha : a ≤ 1) (hb : b ≤ 1) (hi : i < n) (hk : k < n) (h : a ≠ b ∨ i ≠ k) : sectorN n a i ≠ sectorN n b k := by
  unfold sectorN
  have h1 : a = 0 ∨ a = 1 := by omega
  have h2 : b = 0 ∨ b = 1 := by omega
  rcases h1 with rfl | rfl <;> rcases h2 with rfl | rfl <;> omega
/-- a platter that a volume lies on -/
theorem writes_fit {p : Plat} {n b : Nat} {L : List ByteArray} (hc : checkP p = true) (hp : p.cache = []) (hl : p.sectors.length = 3 + 2 * n) (hn : n ≤ 64) (hb : b ≤ 1) (hL : ∀ s ∈ L, s.size ≤ 128) :
    ∀ k, k ≤ n → checkP (laidTo p n b L k) = true ∧ (laidTo p n b L k).sectors = p.sectors ∧ (laidTo p n b L k).cache.length = k ∧ (∀ o : Int, (∀ i, i < k → o ≠ (sectorN n b i : Nat)) → readF (laidTo p n b L k) o = readF p o) ∧ (∀ i, i < k → readF (laidTo p n b L k) (sectorN n b i : Nat) = (L.getD i ByteArray.empty, 0)) ∧
      (k < n → (writeF (laidTo p n b L k) (sectorN n b k : Nat) (L.getD k ByteArray.empty)).2 = 0) := by
  have hs : ∀ k, (L.getD k ByteArray.empty).size ≤ 128 := fun k => by
    rw [List.getD_eq_getElem?_getD]
    cases hx : L[k]? with
    | none => exact Nat.zero_le _
    | some x => exact hL x (List.mem_of_getElem? hx)
  have hw : ∀ k, k < n → checkP (laidTo p n b L k) = true → (laidTo p n b L k).sectors = p.sectors → (laidTo p n b L k).cache.length = k → (writeF (laidTo p n b L k) (sectorN n b k : Nat) (L.getD k ByteArray.empty)).2 = 0 := fun k hk h1 h2 h3 => by
    have hh : hasB (laidTo p n b L k).sectors.length (sectorN n b k : Nat) = true := by
      rw [hasB_iff, h2, hl]
      have := sector_lt hb hk
      omega
    unfold writeF oneF
    rw [if_pos h1, if_pos hh, if_pos (hs k), h3, if_neg (by simp; omega)]
  intro k
  induction k with
  | zero =>
    intro _
    exact ⟨hc, rfl, by show p.cache.length = 0; rw [hp]; rfl, fun _ _ => rfl, fun i hi => by omega, fun h => hw 0 h hc rfl (by show p.cache.length = 0; rw [hp]; rfl)⟩
  | succ k ih =>
    intro hk
    obtain ⟨h1, h2, h3, h4, h5, h6⟩ := ih (by omega)
    have h7 := h6 (by omega)
    have e := (write_ok h7).2.2.2.2
    have c1 : checkP (laidTo p n b L (k + 1)) = true := write_check h7
    have c2 : (laidTo p n b L (k + 1)).sectors = p.sectors := by show (writeF _ _ _).1.sectors = _; rw [e]; exact h2
    have c3 : (laidTo p n b L (k + 1)).cache.length = k + 1 := by show (writeF _ _ _).1.cache.length = _; rw [e]; simp [h3]
    refine ⟨c1, c2, c3, fun o ho => ?_, fun i hi => ?_, fun h => hw (k + 1) h c1 c2 c3⟩
    · show readF (writeF _ _ _).1 o = _
      rw [read_write h7, if_neg (ho k (by omega))]
      exact h4 o (fun i hi => ho i (by omega))
    · show readF (writeF _ _ _).1 _ = _
      rw [read_write h7]
      by_cases hik : i = k
      · subst hik; rw [if_pos rfl]
      · have := sector_ne hb hb (show i < n by omega) (show k < n by omega) (.inr hik)
        rw [if_neg (by omega)]
        exact h5 i (by omega)
end Go.Proofs.YtpkomloblhbkiaaGreatDoor
/- vault, plain: a Store that is stopped, and a crash behind it. -/
namespace Go.Proofs.YtpkomloblhbkiaaGreatDoor
open Go.RowKit
theorem tcrash_more {p : Plat} {i : Int} {s : ByteArray} {most : Int} (hp : p.cache = []) (hg : (getF p i).2.2 = 0) (h : (putF p i s most).2.2 = 0) (F : List Int) :
    ∃ (b : Plat) (x : ByteArray) (ok : Bool), crashF (putF p i s most).1 F = (b, 0) ∧ getF b i = (x, ok, 0) ∧ ((x = s ∧ ok = true) ∨ ((putF p i s most).2.1 = false ∧ x = (getF p i).1 ∧ ok = (getF p i).2.1)) ∧
      b.cache = [] ∧ b.sectors.length = p.sectors.length ∧ checkP b = true ∧ ∀ o, o ≠ i → o ≠ i + 1 → o ≠ i + 2 → readF b o = readF p o := by
  obtain ⟨m, M, far, hm, hM, hB, hM1, hm1, hf1, hf2, hMe, hff⟩ := marks hg
  obtain ⟨hc, hi0, hin, hi2⟩ := read_pos (get_read hg)
  have hG : getF p i = ((getF p i).1, (getF p i).2.1, 0) := by rw [← hg]
  rw [putF_do hg, hm] at h ⊢
  dsimp only at h ⊢
  rw [hM, hB] at h ⊢
  dsimp only at h ⊢
  have hN : mostN most ≤ 4 := by unfold mostN; split <;> omega
  generalize mostN most = N at hN h ⊢
  have hd : (doTo p (i + far) s i M N).2 = 0 := by
    unfold doN at h
    split at h
    · assumption
    · exact h
  have keep : ∀ b : Plat, (∀ o, o ≠ i + far → readF b o = readF p o) → getF b i = getF p i := by
    intro b hb
    refine getF_same (hb i (by omega)) fun far' hf => hb _ ?_
    rw [hm] at hf
    have := hff far' hf
    omega
  have hfo : ∀ o, o ≠ i + 1 → o ≠ i + 2 → o ≠ i + far := fun o a b => by
    have : far = 1 ∨ far = 2 := by omega
    rcases this with rfl | rfl <;> assumption
  have hNc : N = 0 ∨ N = 1 ∨ N = 2 ∨ N = 3 ∨ N = 4 := by omega
  rcases hNc with rfl | rfl | rfl | rfl | rfl
  · rw [doN_ok (show doTo p (i + far) s i M 0 = (p, 0) from rfl)]
    exact ⟨p, _, _, crash_bare hc hp F, hG, .inr ⟨rfl, rfl, rfl⟩, hp, rfl, hc, fun _ _ _ _ => rfl⟩
  · have h1 := doTo_w1 (by omega) hd
    rw [doN_ok (doTo_ok1 h1)]
    obtain ⟨x, hx, _⟩ := crash_one hp h1 F
    obtain ⟨c1, c2, c3, c4, _⟩ := crash_ok (write_check h1) F
    refine ⟨_, _, _, by dsimp only; rw [← c1], (keep _ fun o ho => by rw [hx, if_neg ho]).trans hG, .inr ⟨rfl, rfl, rfl⟩, c3, by rw [c2, write_len h1], c4, fun o a b c => by rw [hx, if_neg (hfo o b c)]⟩
  · have h1 := doTo_w1 (by omega) hd
    rw [doN_ok (doTo_ok2 h1)]
    obtain ⟨s1, s2, s3, s4, _⟩ := sync_ok (write_check h1)
    exact ⟨_, _, _, crash_bare s4 s2 F, (keep _ fun o ho => by rw [read2 h1, if_neg ho]).trans hG, .inr ⟨rfl, rfl, rfl⟩, s2, by rw [s3, write_len h1], s4, fun o a b c => by rw [read2 h1, if_neg (hfo o b c)]⟩
  · have h1 := doTo_w1 (by omega) hd
    have h2 := doTo_w2 (by omega) hd
    rw [doN_ok (doTo_ok3 h1 h2)]
    obtain ⟨s1, s2, s3, s4, _⟩ := sync_ok (write_check h1)
    obtain ⟨x, hx, hxx⟩ := crash_one s2 h2 F
    obtain ⟨c1, c2, c3, c4, _⟩ := crash_ok (write_check h2) F
    have hlen : (crashF (writeF (syncF (writeF p (i + far) s).1).1 i M).1 F).1.sectors.length = p.sectors.length := by rw [c2, write_len h2, s3, write_len h1]
    have hro : readF (syncF (writeF p (i + far) s).1).1 i = (m, 0) := by rw [read2 h1, if_neg (by omega), hm]
    rw [hro] at hxx
    dsimp only at hxx
    have hx2 : x = m ∨ x = M := by
      rcases hxx with h | h | ⟨n, h⟩
      · exact .inl h
      · exact .inr h
      · rw [h]; exact mix_mark hm1 hM1
    rcases hx2 with rfl | rfl
    · refine ⟨_, _, _, by dsimp only; rw [← c1], (keep _ fun o ho => ?_).trans hG, .inr ⟨rfl, rfl, rfl⟩, c3, hlen, c4, fun o a b c => by rw [hx, if_neg a, read2 h1, if_neg (hfo o b c)]⟩
      rw [hx]
      by_cases e : o = i
      · subst e; rw [if_pos rfl, hm]
      · rw [if_neg e, read2 h1, if_neg ho]
    · refine ⟨_, s, true, by dsimp only; rw [← c1], ?_, .inl ⟨rfl, rfl⟩, c3, hlen, c4, fun o a b c => by rw [hx, if_neg a, read2 h1, if_neg (hfo o b c)]⟩
      have := getF_mark (p := (crashF (writeF (syncF (writeF p (i + far) s).1).1 i x).1 F).1) (i := i) (m := x) (far := far) (s := s) (e := 0) (by rw [hx, if_pos rfl]) hMe hB (by rw [hx, if_neg (by omega), read2 h1, if_pos rfl])
      simpa using this
  · have h1 := doTo_w1 (by omega) hd
    have h2 := doTo_w2 (by omega) hd
    rw [doN_ok (doTo_ok4 h1 h2)]
    obtain ⟨s1, s2, s3, s4, _⟩ := sync_ok (write_check h2)
    obtain ⟨_, _, s5, _, _⟩ := sync_ok (write_check h1)
    refine ⟨_, s, true, crash_bare s4 s2 F, ?_, .inl ⟨rfl, rfl⟩, s2, by rw [s3, write_len h2, s5, write_len h1], s4, fun o a b c => by rw [read4 h1 h2, if_neg a, if_neg (hfo o b c)]⟩
    have := getF_mark (p := (syncF (writeF (syncF (writeF p (i + far) s).1).1 i M).1).1) (i := i) (m := M) (far := far) (s := s) (e := 0) (by rw [read4 h1 h2, if_pos rfl]) hMe hB (by rw [read4 h1 h2, if_neg (by omega), if_pos rfl])
    simpa using this
/-- a volume lies on a platter, in area a, as generation g -/
structure Lies (p : Plat) (n a g : Nat) (v : Vol) : Prop where
  chk : checkP p = true
  bare : p.cache = []
  len : p.sectors.length = 3 + 2 * n
  a1 : a ≤ 1
  g9 : g ≤ 1000000000
  mark : getF p 0 = (vheadB g a v.root, true, 0)
  blk : ∀ i, i < n → readF p (sectorN n a i : Nat) = (v.blocks.getD i ByteArray.empty, 0)
  vol : volB v = true
  vlen : v.blocks.length = n
  rt : rootedB v = true
theorem Lies.n64 {p : Plat} {n a g : Nat} {v : Vol} (h : Lies p n a g v) : mayB n = true ∧ 1 ≤ n ∧ n ≤ 64 := by
  have := ((volB_iff v).1 h.vol).1
  rw [h.vlen] at this
  exact count_may this
theorem pow_size {n : Nat} (h : mayB n = true) (hn : n ≤ 64) : vsizeF (3 + 2 * n) = (n, true) := by
  obtain ⟨k, hk, rfl⟩ := mayB_pow h
  refine vsizeF_at k ?_
  by_cases h7 : k < 7
  · exact h7
  · have : 2 ^ 7 ≤ 2 ^ k := Nat.pow_le_pow_right (by omega) (by omega)
    omega
theorem list_blocks {L : List ByteArray} {n : Nat} (h : L.length = n) : (List.range n).map (fun i => L.getD i ByteArray.empty) = L := by
  subst h
  apply List.ext_getElem
  · simp
  · intro i h1 h2
    simp [List.getD_eq_getElem?_getD, h2]
theorem openP_lies {p : Plat} {n a g : Nat} {v : Vol} (h : Lies p n a g v) : openP p = (⟨n, a, g, v⟩, 0) := by
  obtain ⟨hm, h1, h64⟩ := h.n64
  have hs := pow_size hm h64
  have hr := ((volB_iff v).1 h.vol).2.1
  have hb : blocksOf p n a = v.blocks := by
    unfold blocksOf
    rw [← list_blocks h.vlen]
    apply List.map_congr_left
    intro i hi
    rw [h.blk i (List.mem_range.1 hi)]
  unfold openP
  rw [h.len, hs, h.mark, if_neg (by simp), if_neg (by simp)]
  simp only
  rw [vhead_back h.g9 h.a1 hr]
  simp only
  rw [hb]
  obtain ⟨L, r⟩ := v
  rw [if_neg (by rw [h.vol]; decide), if_neg (by rw [h.rt]; decide)]
end Go.Proofs.YtpkomloblhbkiaaGreatDoor
/- vault, plain: behind a Store, stopped or not, and a crash, there lies the old volume, or the new one. -/
namespace Go.Proofs.YtpkomloblhbkiaaGreatDoor
open Go.RowKit
theorem laid_touch {p : Plat} {n b : Nat} {L : List ByteArray} (hp : p.cache = []) (hw : ∀ k, k < n → (writeF (laidTo p n b L k) (sectorN n b k : Nat) (L.getD k ByteArray.empty)).2 = 0) :
    ∀ k, k ≤ n → ∀ o : Nat, (∀ i, i < k → o ≠ sectorN n b i) → touchB (laidTo p n b L k).cache o = false := by
  intro k
  induction k with
  | zero => intro _ o _; show touchB p.cache o = false; rw [hp]; rfl
  | succ k ih =>
    intro hk o ho
    have e := (write_ok (hw k (by omega))).2.2.2.2
    show touchB (writeF _ _ _).1.cache o = false
    rw [e]
    have h1 := ih (by omega) o (fun i hi => ho i (by omega))
    have h2 := ho k (by omega)
    unfold touchB at h1 ⊢
    rw [List.any_append, h1]
    simp
    omega
theorem read_bare {p q : Plat} (hc : checkP p = true) (hq : checkP q = true) (hp : p.cache = []) (hqc : q.cache = []) (hl : q.sectors.length = p.sectors.length) {o : Nat} (h : q.sectors[o]? = p.sectors[o]?) : readF q (o : Int) = readF p (o : Int) := by
  rw [readF_ok hc, readF_ok hq, hl]
  obtain ⟨S, C⟩ := p
  obtain ⟨S', C'⟩ := q
  dsimp only at hp hqc h ⊢
  subst hp hqc
  rw [readOf_bare, readOf_bare]
  simp only [List.getD, Int.toNat_natCast, h]
theorem crash_laid {p : Plat} {n b : Nat} {L : List ByteArray} (hc : checkP p = true) (hp : p.cache = []) (hl : p.sectors.length = 3 + 2 * n) (hn : n ≤ 64) (hb : b ≤ 1) (hL : ∀ s ∈ L, s.size ≤ 128) {k : Nat} (hk : k ≤ n) (F : List Int) :
    ∃ q, crashF (laidTo p n b L k) F = (q, 0) ∧ checkP q = true ∧ q.cache = [] ∧ q.sectors.length = p.sectors.length ∧ ∀ o : Nat, (∀ i, i < k → o ≠ sectorN n b i) → readF q (o : Int) = readF p (o : Int) := by
  have hf := writes_fit hc hp hl hn hb hL
  obtain ⟨c1, c2, c3, c4, _, _⟩ := hf k hk
  obtain ⟨d1, d2, d3, d4, d5⟩ := crash_ok c1 F
  refine ⟨_, Prod.ext rfl d1, d4, d3, by rw [d2, c2], fun o ho => ?_⟩
  refine read_bare hc d4 hp d3 (by rw [d2, c2]) ?_
  rw [d5 o (laid_touch hp (fun j hj => (hf j (by omega)).2.2.2.2.2 hj) k hk o ho), c2]
theorem mark_same {p q : Plat} (h : ∀ o : Nat, o < 3 → readF q (o : Int) = readF p (o : Int)) : getF q 0 = getF p 0 := by
  refine getF_same (h 0 (by omega)) fun far hf => ?_
  rcases bodyF_cases (readF p 0).1 with ⟨_, e⟩ | ⟨_, e⟩ | ⟨_, _, e⟩
  · rw [e] at hf; injection hf with hf _; subst hf; exact h 1 (by omega)
  · rw [e] at hf; injection hf with hf _; subst hf; exact h 2 (by omega)
  · rw [e] at hf; injection hf with _ hf; cases hf
theorem sector_ge (n b i : Nat) : 3 ≤ sectorN n b i := by unfold sectorN; omega
theorem store_crash {p : Plat} {n a g : Nat} {v u : Vol} (h : Lies p n a g v) (hu : volB u = true) (hul : u.blocks.length = n) (hur : rootedB u = true) (hg : g + 1 ≤ 1000000000) (D : Nat) (F : List Int) :
    (storeF p n (1 - a) (g + 1) u D).2.2 = 0 ∧ DeedsOk p n (1 - a) u.blocks ∧ ∃ q, crashF (storeF p n (1 - a) (g + 1) u D).1 F = (q, 0) ∧ ((Lies q n a g v ∧ (storeF p n (1 - a) (g + 1) u D).2.1 = false) ∨ Lies q n (1 - a) (g + 1) u) := by
  obtain ⟨_, hn1, h64⟩ := h.n64
  have ha := h.a1
  have hL : ∀ s ∈ u.blocks, s.size ≤ 128 := fun s hs => by have := ((volB_iff u).1 hu).2.2 s hs; omega
  have hfit := writes_fit (b := 1 - a) h.chk h.bare h.len h64 (by omega) hL
  obtain ⟨c1, c2, c3, c4, c5, _⟩ := hfit n (Nat.le_refl _)
  obtain ⟨s1, s2, s3, s4, _⟩ := sync_ok c1
  have hok : DeedsOk p n (1 - a) u.blocks := ⟨fun k hk => (hfit k (by omega)).2.2.2.2.2 hk, s1⟩
  have old : ∀ q : Plat, checkP q = true → q.cache = [] → q.sectors.length = p.sectors.length → getF q 0 = getF p 0 → (∀ i, i < n → readF q (sectorN n a i : Nat) = readF p (sectorN n a i : Nat)) → Lies q n a g v :=
    fun q q1 q2 q3 q4 q5 => ⟨q1, q2, by rw [q3]; exact h.len, ha, h.g9, by rw [q4]; exact h.mark, fun i hi => by rw [q5 i hi]; exact h.blk i hi, h.vol, h.vlen, h.rt⟩
  by_cases hD : D ≤ n
  · have e : storeF p n (1 - a) (g + 1) u D = (laidTo p n (1 - a) u.blocks D, false, 0) := by unfold storeF deedTo; rw [if_pos hD, if_pos hD]
    rw [e]
    obtain ⟨q, q1, q2, q3, q4, q5⟩ := crash_laid (b := 1 - a) h.chk h.bare h.len h64 (by omega) hL hD F
    refine ⟨rfl, hok, q, q1, .inl ⟨old q q2 q3 q4 (mark_same fun o ho => q5 o fun i hi => ?_) (fun i hi => q5 _ fun k hk => ?_), rfl⟩⟩
    · have := sector_ge n (1 - a) i; omega
    · exact sector_ne ha (by omega) hi (by omega) (.inl (by omega))
  · have e : storeF p n (1 - a) (g + 1) u D = putF (syncF (laidTo p n (1 - a) u.blocks n)).1 0 (vheadB (g + 1) (1 - a) u.root) ((D - (n + 1) : Nat) : Int) := by
      unfold storeF deedTo; rw [if_neg hD, if_neg (by omega)]
    rw [e]
    have rd : ∀ o : Int, readF (syncF (laidTo p n (1 - a) u.blocks n)).1 o = readF (laidTo p n (1 - a) u.blocks n) o := fun o => read_sync c1 o
    generalize (syncF (laidTo p n (1 - a) u.blocks n)).1 = P at *
    have hgm : getF P 0 = getF p 0 := mark_same fun o ho => by
      rw [rd]
      exact c4 o fun i hi => by have := sector_ge n (1 - a) i; omega
    have hg0 : (getF P 0).2.2 = 0 := by rw [hgm, h.mark]
    have hur2 := ((volB_iff u).1 hu).2.1
    have hpz := put_fits (s := vheadB (g + 1) (1 - a) u.root) s2 hg0 (by rw [s3, c2, h.len]; omega) (by rw [vhead_size hur2]; omega) ((D - (n + 1) : Nat) : Int)
    obtain ⟨b, x, ok, b1, b2, b3, b4, b5, b6, b7⟩ := tcrash_more s2 hg0 hpz F
    refine ⟨hpz, hok, b, b1, ?_⟩
    rcases b3 with ⟨rfl, rfl⟩ | ⟨b8, rfl, rfl⟩
    · refine .inr ⟨b6, b4, by rw [b5, s3, c2]; exact h.len, by omega, hg, b2, fun i hi => ?_, hu, hul, hur⟩
      have := sector_ge n (1 - a) i
      rw [b7 _ (by omega) (by omega) (by omega), rd]
      exact c5 i hi
    · refine .inl ⟨old b b6 b4 (by rw [b5, s3, c2]) ?_ (fun i hi => ?_), b8⟩
      · rw [b2, hgm, h.mark]
      · have := sector_ge n a i
        rw [b7 _ (by omega) (by omega) (by omega), rd]
        exact c4 _ fun k hk => by
          have := sector_ne (a := a) (b := 1 - a) ha (by omega) hi hk (.inl (by omega))
          omega
end Go.Proofs.YtpkomloblhbkiaaGreatDoor
namespace Go.Proofs.YtpkomloblhbkiaaGreatDoor
section
variable {P : Program} {ops : Array Oper} {Q : Exit → Act → World → Prop} {md : Region.Mode} {n l : Nat}
theorem wpOp_wide (hnd : ∀ (i : Nat) (o : Oper), ops[i]? = some o → ∀ c : Call, o.op ≠ .defer c) {K K' : Act → World → Prop} (hK : ∀ a w, K a w → K' a w) (i : Nat) (a : Act) (w : World) (h : wpOp P ops (Calm Q) i K a w) :
    wpOpIn Fence.wide n P ops Q i K' a w := by
  unfold wpOp at h
  unfold wpOpIn
  cases ho : ops[i]? with
  | none => rw [ho] at h; exact hK _ _ h
  | some o =>
    rw [ho] at h
    simp only at h ⊢
    split
    · rename_i hw
      rw [if_pos hw] at h
      rcases h with h | h
      · unfold Oper.wp at h
        unfold Oper.wpIn
        refine ⟨fun _ _ => trivial, ?_⟩
        rw [Oper.semAt_eq _ _ _ (hnd i o ho)]
        generalize (execOp a.eval o).run P w = r at *
        cases r with
        | ok x w' =>
          cases x <;> simp only [Oper.upon, Oper.uponIn] at h ⊢
          case value => exact hK _ _ h
          case skip => exact hK _ _ h
          case defer => exact hK _ _ h
          case enter =>
            refine ⟨fun hf => (by cases hf), (callsIn_wide.2 h).mono ?_⟩
            intro e w'' he
            cases e with
            | returned v => exact hK _ _ he
            | panicked c => cases he.1
            | outgrown => exact (Calm.out he).elim
          case row =>
            refine ⟨fun hf => (by cases hf), fun c cs _ => ?_⟩
            obtain ⟨v, w'', hr, hs⟩ := h c cs
            exact ⟨v, w'', hK _ _ hr, (stepsIn_wide (P := P)).2 hs⟩
        | halt x w' =>
          cases x <;> simp only [Oper.upon, Oper.uponIn] at h ⊢
          cases h.1
      · exact (Calm.out h.2).elim
    · rename_i hw
      rw [if_neg hw] at h
      exact ⟨fun _ _ => trivial, hK _ _ h⟩
theorem wpAny_wide (hnd : ∀ (i : Nat) (o : Oper), ops[i]? = some o → ∀ c : Call, o.op ≠ .defer c) (k : Nat) : ∀ (li : Array Bool) (a : Act) (w : World), wpAny P md ops (Calm Q) k li a w → wpAnyIn Fence.wide n P md ops Q k li a w := by
  induction k with
  | zero => exact fun _ _ _ h => ⟨h.1, h.2.2⟩
  | succ k ih => exact fun li a w h => ⟨fun h0 => (h.1 h0).2, fun i hi => wpOp_wide hnd (fun a' w' h' => ih _ a' w' h') i a w (h.2 i hi)⟩
theorem wpIn_wide_T {id : Nat} {a : Act} {w : World} (zs : List Nat) (S : World → Prop) (hm : P.follows .mixedOrders = true) (hd : noDefer ops = true) (h : wpAnyT P .any ops (Calm Q) S zs ops.size (Array.replicate ops.size false) a w.drew) : (Code.region id ops true).wpIn Fence.wide n P Q a w :=
  wpIn_region_any hm (wpAny_wide (noDefer_spec hd) _ _ _ _ (wpAny_of_T _ _ _ _ h))
end
end Go.Proofs.YtpkomloblhbkiaaGreatDoor
