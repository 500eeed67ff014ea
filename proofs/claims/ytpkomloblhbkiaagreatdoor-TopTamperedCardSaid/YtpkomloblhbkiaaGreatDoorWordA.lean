/- word: Is, Add, Xor, And, Rot. -/
import Derived.Test.YtpkomloblhbkiaaGreatDoorRows
import Derived.WalkKit
import Derived.ProofKit
import Derived.OpenShut
import Derived.Handy
import Derived.LoopTactic
import Derived.OwnWalk
import Derived.BigQuiet
import Derived.Deep.QuietTactic
import Derived.Deep.LoopGhost
import Derived.WalkSpells
import Derived.WalkLawsBesides
import Derived.Lib.Hide
import Derived.Lib.Strings
import Derived.Laws.OwnMore
import Derived.Deep.Draws
import Derived.Deep.AppendLies
import Derived.Maps.AppendAt
import Derived.Laws.BitsAllLaws
import Derived.Laws.Bits64
import Derived.RegionTactic
import Derived.Deep.RegionLaw
set_option linter.unusedVariables false
/- The small kit of these proofs: slices that read as lists, worlds that only grow. -/
namespace Go.Proofs.YtpkomloblhbkiaaGreatDoor
open Go.RowKit
theorem ret_bool {a b : Bool} (h : a = b) : Ending.returned (.bool a) = .returned (.bool b) := by rw [h]
theorem ret_int {k : IntKind} {a b : Int} (h : a = b) : Ending.returned (.int k a) = .returned (.int k b) := by rw [h]
/-- At block b from place off on lie the elements of L, each as the sz cells 'enc x'. -/
def SlC {α : Type} (enc : α → List Value) (sz : Nat) (w : World) (b off : Nat) (L : List α) : Prop :=
  ∀ k x, L[k]? = some x → ∀ j v, (enc x)[j]? = some v → w.cell? ⟨b, off + k * sz + j, none⟩ = some v
/-- The slice with address A and n elements reads as the list L, and lies below block B. -/
def SlR {α : Type} (enc : α → List Value) (sz : Nat) (w : World) (B : Nat) (A : Option Addr) (n : Nat) (L : List α) : Prop :=
  L.length = n ∧ (n = 0 ∨ ∃ b off, A = some ⟨b, off, none⟩ ∧ b < B ∧ SlC enc sz w b off L)
section
variable {α : Type} {enc : α → List Value} {sz : Nat} {w w' : World} {B B' b off n : Nat} {A : Option Addr} {L : List α}
theorem SlC.keep (h : SlC enc sz w b off L) (hk : ∀ o, w'.cell? ⟨b, o, none⟩ = w.cell? ⟨b, o, none⟩) : SlC enc sz w' b off L :=
  fun k x hx j v hv => (hk _).trans (h k x hx j v hv)
theorem SlC.below (h : SlC enc sz w b off L) (hb : Below B w w') (hB : b < B) : SlC enc sz w' b off L := h.keep fun o => hb.cell (p := ⟨b, o, none⟩) hB
theorem SlR.keep (h : SlR enc sz w B A n L) (hk : ∀ b o, b < B → w'.cell? ⟨b, o, none⟩ = w.cell? ⟨b, o, none⟩) : SlR enc sz w' B A n L :=
  ⟨h.1, h.2.imp id fun ⟨b, off, e, hb, hc⟩ => ⟨b, off, e, hb, hc.keep fun o => hk b o hb⟩⟩
theorem SlR.more (h : SlR enc sz w B A n L) (hB : B ≤ B') : SlR enc sz w B' A n L :=
  ⟨h.1, h.2.imp id fun ⟨b, off, e, hb, hc⟩ => ⟨b, off, e, by omega, hc⟩⟩
theorem SlR.below (h : SlR enc sz w B A n L) (hb : Below B w w') : SlR enc sz w' B A n L := h.keep fun _ _ hB => hb.cell hB
theorem SlR.nil_ : SlR enc sz w B A 0 ([] : List α) := ⟨rfl, .inl rfl⟩
theorem SlR.ofC (hl : L.length = n) (hb : b < B) (h : SlC enc sz w b off L) : SlR enc sz w B (some ⟨b, off, none⟩) n L := ⟨hl, .inr ⟨b, off, rfl, hb, h⟩⟩
/-- the flat cells of a list -/
def flat (enc : α → List Value) (L : List α) : List Value := L.flatMap enc
theorem flat_snoc (x : α) : flat enc (L ++ [x]) = flat enc L ++ enc x := by simp [flat]
theorem flat_append (M : List α) : flat enc (L ++ M) = flat enc L ++ flat enc M := by simp [flat]
theorem flat_length (he : ∀ x, (enc x).length = sz) : (flat enc L).length = L.length * sz := by
  induction L with
  | nil => simp [flat]
  | cons x L ih => simp only [flat, List.flatMap_cons, List.length_append, List.length_cons] at *; rw [ih, he, Nat.add_mul]; omega
theorem flat_get (he : ∀ x, (enc x).length = sz) : ∀ (L : List α) (k : Nat) (x : α), L[k]? = some x → ∀ j v, (enc x)[j]? = some v → (flat enc L)[k * sz + j]? = some v := by
  intro L
  induction L with
  | nil => intro k x h; simp at h
  | cons y L ih =>
    intro k x h j v hv
    cases k with
    | zero =>
      simp only [List.getElem?_cons_zero, Option.some.injEq] at h
      subst h
      have hj : j < (enc y).length := (List.getElem?_eq_some_iff.1 hv).1
      simp only [flat, List.flatMap_cons, Nat.zero_mul, Nat.zero_add]
      rw [List.getElem?_append_left hj]; exact hv
    | succ k =>
      simp only [List.getElem?_cons_succ] at h
      simp only [flat, List.flatMap_cons]
      rw [List.getElem?_append_right (by rw [he, Nat.add_mul]; omega), he]
      have : (k + 1) * sz + j - sz = k * sz + j := by rw [Nat.add_mul]; omega
      rw [this]
      exact ih k x h j v hv
theorem SlR.of_own {base : Nat} {e : TypeId} {c : Nat} (he : ∀ x, (enc x).length = sz) (h : w.ownsRow base e sz (.slice A n c) n (flat enc L)) (hl : L.length = n) :
    SlR enc sz w w.heap.size A n L := by
  refine ⟨hl, ?_⟩
  rcases h.2 with ⟨_, h0⟩ | ⟨g, cap, cur, hv, _, hg, _⟩
  · exact .inl h0
  · have hA : A = some ⟨g, 0, none⟩ := by injection hv
    subst hA
    refine .inr ⟨g, 0, rfl, (Array.getElem?_eq_some_iff.1 hg).1, fun k x hx j v hv => ?_⟩
    have := h.cells (g := g) rfl (k * sz + j) v (flat_get he L k x hx j v hv)
    have hadd : (⟨g, 0, none⟩ : Addr).add (k * sz + j) = ⟨g, 0 + k * sz + j, none⟩ := by unfold Addr.add; split <;> simp_all
    rwa [hadd] at this
end
theorem below_drewN {B : Nat} {a w : World} (h : Below B a w) (n : Nat) : Below B a (w.drewN n) := ⟨h.os, h.tape, h.output, h.size, h.block⟩
/-- Block g is just the cells cs of element type t, none frozen. -/
def Blk (w : World) (g : Nat) (t : TypeId) (cs : Array Value) : Prop := w.heap[g]? = some (.cells cs t (0, 0))
section
variable {w w' : World} {g : Nat} {t : TypeId} {cs : Array Value}
theorem Blk.lt (h : Blk w g t cs) : g < w.heap.size := by
  rcases Nat.lt_or_ge g w.heap.size with hlt | hge
  · exact hlt
  · unfold Blk at h; rw [Array.getElem?_eq_none hge] at h; cases h
theorem Blk.cell (h : Blk w g t cs) (i : Nat) : w.cell? ⟨g, i, none⟩ = cs[i]? := cell_of_row w g i cs t (0, 0) h
theorem Blk.frozen (h : Blk w g t cs) (i : Nat) : w.frozen? ⟨g, i, none⟩ = false := by
  unfold Blk at h
  simp [World.frozen?, h]
theorem Blk.new (w : World) (t : TypeId) (cs : Array Value) : Blk (w.alloc (.cells cs t)) w.heap.size t cs := heap_alloc_new w _
theorem Blk.drew (h : Blk w g t cs) : Blk w.drew g t cs := h
theorem Blk.drewN (h : Blk w g t cs) (n : Nat) : Blk (w.drewN n) g t cs := h
theorem Blk.alloc (h : Blk w g t cs) (o : Obj) : Blk (w.alloc o) g t cs := (Below.heap_alloc w o g h.lt).trans h
theorem Blk.set_ (h : Blk w g t cs) (i : Nat) (u : Value) : Blk (w.setCell ⟨g, i, none⟩ u) g t (cs.setIfInBounds i u) := by
  unfold Blk at h ⊢
  simp [World.setCell, Array.getElem?_modify, h]
theorem Blk.far (h : Blk w g t cs) {p : Addr} (hp : g ≠ p.block) (u : Value) : Blk (w.setCell p u) g t cs := (Below.heap_setCell w p u g hp).trans h
theorem Blk.below {B : Nat} (h : Blk w g t cs) (hb : Below B w w') (hg : g < B) : Blk w' g t cs := (hb.block g hg).trans h
theorem Blk.grown {row : Option Nat} (h : Blk w g t cs) (hb : w.grownBy w' row) (hg : some g ≠ row) : Blk w' g t cs := (hb.block g h.lt hg).trans h
theorem Blk.ne_ {g' : Nat} {t' : TypeId} {cs' : Array Value} (h : Blk w g t cs) (h' : Blk w g' t' cs') (hne : t ≠ t') : g ≠ g' := by
  rintro rfl
  unfold Blk at h h'
  rw [h] at h'
  injection h' with h'
  injection h' with _ ht
  exact hne ht
theorem own_blk_ne {base : Nat} {e : TypeId} {size n : Nat} {v : Value} {xs : List Value} (h : w.ownsRow base e size v n xs) (hg : Blk w g t cs) (hne : e ≠ t) : v.ownBlock ≠ some g := by
  rcases h.2 with ⟨rfl, _⟩ | ⟨g', cap, cur, rfl, _, hh, _⟩
  · simp [Value.ownBlock]
  · intro he
    have : g' = g := by simpa [Value.ownBlock] using he
    subst this
    exact Blk.ne_ (t := e) hh hg hne rfl
/-- its cells, one by one: to be laid ahead of a walk -/
theorem Blk.cells (h : Blk w g t cs) : ∀ i v, cs[i]? = some v → w.cell? ⟨g, i, none⟩ = some v := fun i _ hv => (h.cell i).trans hv
end
/-- A function's end, closed to the walk: 'go_wp2_with (with_reducible refine end_at ?_)' stops there; then 'refine end_ret (v := ..) ..'. -/
def EndAt (P : Program) (fn : Func) (R : Ending → World → Prop) (a : Act) (w : World) : Prop := bodyPost P fn R .ret a w
theorem end_at {P : Program} {fn : Func} {R : Ending → World → Prop} {a : Act} {w : World} (h : EndAt P fn R a w) : bodyPost P fn R .ret a w := h
theorem end_ret {P : Program} {fn : Func} {R : Ending → World → Prop} {a : Act} {w : World} {v : Value} (h : (results fn a.tmps).run P w = .ok v w) (hd : a.defers = []) (hR : R (.returned v) w) : EndAt P fn R a w := bodyPost_ret h hd hR
theorem bytes_ext {a b : ByteArray} (h : a.toList = b.toList) : a = b := by
  rw [Lib.toList_data, Lib.toList_data] at h
  rw [← Lib.mk_data a, h, Lib.mk_data]
end Go.Proofs.YtpkomloblhbkiaaGreatDoor
/- Plain: the operations on digits of base two, on numbers of int. -/
namespace Go.Proofs.YtpkomloblhbkiaaGreatDoor
open Go.RowKit
theorem wrap_i64_nat (n : Nat) (h : n < 9223372036854775808) : IntKind.i64.wrap (n : Int) = n := by
  simp only [IntKind.wrap, IntKind.bits, IntKind.signed]
  simp
  omega
theorem ofInt_i64 (a : Nat) (ha : a < 18446744073709551616) : (BitVec.ofInt 64 (a : Int)).toNat = a := by
  rw [BitVec.ofInt_natCast, BitVec.toNat_ofNat]; exact Nat.mod_eq_of_lt (by omega)
theorem i64_and_nat (a b : Nat) (ha : a < 9223372036854775808) (hb : b < 9223372036854775808) : bits .and .i64 (a : Int) (b : Int) = ((a &&& b : Nat) : Int) := by
  have hx : a &&& b < 2 ^ 63 := Nat.and_lt_two_pow _ (by omega)
  show IntKind.i64.wrap ((BitVec.ofInt 64 (a : Int) &&& BitVec.ofInt 64 (b : Int)).toNat : Int) = _
  rw [BitVec.toNat_and, ofInt_i64 a (by omega), ofInt_i64 b (by omega), wrap_i64_nat _ (by omega)]
theorem i64_or_nat (a b : Nat) (ha : a < 9223372036854775808) (hb : b < 9223372036854775808) : bits .or .i64 (a : Int) (b : Int) = ((a ||| b : Nat) : Int) := by
  have hx : a ||| b < 2 ^ 63 := Nat.or_lt_two_pow (by omega) (by omega)
  show IntKind.i64.wrap ((BitVec.ofInt 64 (a : Int) ||| BitVec.ofInt 64 (b : Int)).toNat : Int) = _
  rw [BitVec.toNat_or, ofInt_i64 a (by omega), ofInt_i64 b (by omega), wrap_i64_nat _ (by omega)]
theorem i64_xor_nat (a b : Nat) (ha : a < 9223372036854775808) (hb : b < 9223372036854775808) : bits .xor .i64 (a : Int) (b : Int) = ((a ^^^ b : Nat) : Int) := by
  have hx : a ^^^ b < 2 ^ 63 := Nat.xor_lt_two_pow (by omega) (by omega)
  show IntKind.i64.wrap ((BitVec.ofInt 64 (a : Int) ^^^ BitVec.ofInt 64 (b : Int)).toNat : Int) = _
  rw [BitVec.toNat_xor, ofInt_i64 a (by omega), ofInt_i64 b (by omega), wrap_i64_nat _ (by omega)]
theorem i64_mask32 (a : Nat) (ha : a < 9223372036854775808) : bits .and .i64 (a : Int) 4294967295 = ((a % 4294967296 : Nat) : Int) := by
  have := i64_and_nat a 4294967295 ha (by omega)
  rw [show ((4294967295 : Nat) : Int) = 4294967295 from rfl] at this
  rw [this]
  have h2 : a &&& 4294967295 = a % 4294967296 := Nat.and_two_pow_sub_one_eq_mod a 32
  rw [h2]
end Go.Proofs.YtpkomloblhbkiaaGreatDoor
/- rows of ints, of texts, of bytes: how they lie. -/
namespace Go.Proofs.YtpkomloblhbkiaaGreatDoor
open Go.RowKit
def encI (n : Int) : List Value := [.int .i64 n]
theorem encI_len (n : Int) : (encI n).length = 1 := rfl
theorem SlC.int {w : World} {b off : Nat} {L : List Int} (h : SlC encI 1 w b off L) {k : Nat} {s : Int} (hl : L[k]? = some s) : w.cell? ⟨b, off + k, none⟩ = some (.int .i64 s) := by have := h k s hl 0 _ rfl; simpa using this
def ints (L : List Nat) : List Int := L.map fun (n : Nat) => (n : Int)
theorem ints_get {L : List Nat} {k n : Nat} (h : L[k]? = some n) : (ints L)[k]? = some (n : Int) := by simp [ints, h]
theorem int_info3 : (Tryz.prog.info? 3).map (fun i => (i.zero, i.size, i.bytes)) = some (some (.int .i64 0), 1, 8) := by kernel_rfl
theorem byte_info : (Tryz.prog.info? 5).map (fun i => (i.zero, i.size, i.bytes)) = some (some (.int .u8 0), 1, 1) := by kernel_rfl
def vB (b : UInt8) : Value := .int .u8 (b.toNat : Nat)
def encS (s : ByteArray) : List Value := [.string s]
theorem encS_len (s : ByteArray) : (encS s).length = 1 := rfl
theorem SlC.str {w : World} {b off : Nat} {L : List ByteArray} (h : SlC encS 1 w b off L) {k : Nat} {s : ByteArray} (hl : L[k]? = some s) : w.cell? ⟨b, off + k, none⟩ = some (.string s) := by have := h k s hl 0 _ rfl; simpa using this
end Go.Proofs.YtpkomloblhbkiaaGreatDoor
/- Rows of one's own that grow: reading a slice as cells, append of whatever source (after the kit's page extra-words, sections 1 and 3). -/
namespace Go.Proofs.YtpkomloblhbkiaaGreatDoor
open Go.RowKit
theorem block_of_add (a : Addr) (n : Nat) : (a.add n).block = a.block := by unfold Addr.add; split <;> rfl
def Reads (w : World) (B size : Nat) (A : Option Addr) (n : Nat) (xs : List Value) : Prop :=
  xs.length = n * size ∧ (0 < n → ∃ ad, A = some ad ∧ ad.block < B ∧ ∀ j u, xs[j]? = some u → w.cell? (ad.add j) = some u)
section
variable {w w' : World} {B B' size n : Nat} {A : Option Addr} {xs : List Value}
theorem Reads.none_ : Reads w B size A 0 [] := ⟨by simp, fun h => absurd h (by omega)⟩
theorem Reads.at_ {k : Nat} (h : Reads w B 1 A n xs) (hk : k < n) : ∃ ad u, A = some ad ∧ ad.block < B ∧ xs[k]? = some u ∧ w.cell? (ad.add k) = some u := by
  obtain ⟨ad, e, hb, hc⟩ := h.2 (by omega)
  have hl : k < xs.length := by have := h.1; omega
  exact ⟨ad, xs[k], e, hb, List.getElem?_eq_getElem hl, hc k _ (List.getElem?_eq_getElem hl)⟩
theorem Reads.keep (h : Reads w B size A n xs) (hk : ∀ p : Addr, p.block < B → w'.cell? p = w.cell? p) : Reads w' B size A n xs :=
  ⟨h.1, fun hn => by
    obtain ⟨ad, e, hb, hc⟩ := h.2 hn
    exact ⟨ad, e, hb, fun j u hu => (hk _ (by rw [block_of_add]; exact hb)).trans (hc j u hu)⟩⟩
theorem Reads.more (h : Reads w B size A n xs) (hB : B ≤ B') : Reads w B' size A n xs :=
  ⟨h.1, fun hn => by
    obtain ⟨ad, e, hb, hc⟩ := h.2 hn
    exact ⟨ad, e, by omega, hc⟩⟩
theorem Reads.below (h : Reads w B size A n xs) (hb : Below B w w') : Reads w' B size A n xs := h.keep fun _ hp => hb.cell hp
theorem Reads.drew (h : Reads w B size A n xs) : Reads w.drew B size A n xs := h
theorem Reads.drewN (h : Reads w B size A n xs) (k : Nat) : Reads (w.drewN k) B size A n xs := h
theorem Reads.alloc (h : Reads w B size A n xs) (hB : B ≤ w.heap.size) (o : Obj) : Reads (w.alloc o) B size A n xs := h.keep fun p hp => World.cell?_alloc_lt w o p (by omega)
theorem Reads.setCell (h : Reads w B size A n xs) {p : Addr} (hB : B ≤ p.block) (u : Value) : Reads (w.setCell p u) B size A n xs :=
  h.keep fun q hq => World.cell?_setCell_other w p q u (fun e => by subst e; omega)
theorem Reads.grown (h : Reads w B size A n xs) {row : Option Nat} (hg : w.grownBy w' row) (hB : B ≤ w.heap.size) (hr : ∀ g, row = some g → B ≤ g) : Reads w' B size A n xs :=
  h.keep fun p hp => World.cell?_of_block (hg.block p.block (by omega) (fun e => by have := hr _ e.symm; omega))
theorem Reads.of_own {base : Nat} {e : TypeId} {c : Nat} (h : w.ownsRow base e size (.slice A n c) n xs) : Reads w w.heap.size size A n xs := by
  refine ⟨h.1, fun hn => ?_⟩
  obtain ⟨g, cap, hv, _, hlt⟩ := h.form hn
  have hA : A = some ⟨g, 0, none⟩ := by injection hv
  subst hA
  exact ⟨_, rfl, hlt, h.cells (g := g) rfl⟩
end
section
variable {P : Program} (w : World)
theorem run_append_of_nil (base : Nat) (t ty e : TypeId) (i : TypeInfo) (size : Nat) (ht : P.underlying t = some (.slice e)) (hi : P.info? e = some i)
    (v : Value) (n : Nat) (xs : List Value) (hown : w.ownsRow base e size v n xs) (c : Nat) : (Builtin.append_ #[t, t] ty #[v, .slice none 0 c]).run P w = .ok v w := by
  rcases hown.2 with ⟨rfl, rfl⟩ | ⟨g, cap, cur, rfl, _, _, hnc, _⟩
  · simp [Builtin.append_, run_underlying ht, sizeOf, typeInfo, hi, Builtin.lenOf, Builtin.firstCells]
  · simp [Builtin.append_, run_underlying ht, sizeOf, typeInfo, hi, Builtin.lenOf, Builtin.firstCells, hnc, storeCells]
theorem run_append_any (base : Nat) (t ty e : TypeId) (i : TypeInfo) (z : Value) (size bytes : Nat) (ht : P.underlying t = some (.slice e)) (hi : P.info? e = some i) (hz : i.zero = some z)
    (hsize : i.size = size) (hby : i.bytes = bytes) (hzs : z.cells.size = size) (hsz : 0 < size)
    (v : Value) (n : Nat) (xs : List Value) (hown : w.ownsRow base e size v n xs)
    (B : Nat) (A : Option Addr) (m c : Nat) (news : List Value) (hr : Reads w B size A m news) (h1 : ∀ u ∈ news, u.oneCell' = true)
    (h63 : n + m ≤ maxLen) (hbytes : (n + m) * bytes ≤ 140737488355328) (hbase : base ≤ w.heap.size) :
    ∃ v' w', (Builtin.append_ #[t, t] ty #[v, .slice A m c]).run P w = .ok v' w' ∧ w'.ownsRow base e size v' (n + m) (xs ++ news) ∧ w.grownBy w' v.ownBlock ∧
      (v'.ownBlock = v.ownBlock ∨ v'.ownBlock = some w.heap.size) := by
  rcases A with _ | ad
  · have hm : m = 0 := by
      rcases Nat.eq_zero_or_pos m with h0 | h0
      · exact h0
      · obtain ⟨ad, h, _⟩ := hr.2 h0
        cases h
    subst hm
    have hn : news = [] := List.eq_nil_of_length_eq_zero (by simpa using hr.1)
    subst hn
    exact ⟨v, w, run_append_of_nil w base t ty e i size ht hi v n xs hown c, by simpa using hown, World.grownBy.refl w _, .inl rfl⟩
  · have hcells : ∀ j u, news[j]? = some u → w.cell? (ad.add j) = some u := by
      intro j u hu
      rcases Nat.eq_zero_or_pos m with h0 | h0
      · subst h0
        have hn : news = [] := List.eq_nil_of_length_eq_zero (by simpa using hr.1)
        subst hn
        simp at hu
      · obtain ⟨ad', h, _, hc⟩ := hr.2 h0
        injection h with h
        subst h
        exact hc j u hu
    obtain ⟨v', w', hrun, h2, h3, _, h5⟩ := run_append_own_at (P := P) w base t ty e i z size bytes ht hi hz hsize hby hzs hsz v n xs hown ad m c news hr.1 hcells h1 h63 hbytes hbase
    exact ⟨v', w', hrun, h2, h3, h5⟩
theorem wp_append_any {o : Oper} {a : Act} {K : Act → World → Prop} {Q : Exit → Act → World → Prop} (s x : Operand) (t : TypeId)
    (ho : o.op = .call { callee := .builtin .append, args := #[s, x], argTypes := #[t, t] })
    (base : Nat) (e : TypeId) (i : TypeInfo) (z : Value) (size bytes : Nat) (ht : P.underlying t = some (.slice e)) (hi : P.info? e = some i) (hz : i.zero = some z)
    (hsize : i.size = size) (hby : i.bytes = bytes) (hzs : z.cells.size = size) (hsz : 0 < size)
    (v : Value) (n : Nat) (xs : List Value) (hs : a.eval s = v) (hown : w.ownsRow base e size v n xs)
    (B : Nat) (A : Option Addr) (m c : Nat) (news : List Value) (hx : a.eval x = .slice A m c) (hr : Reads w B size A m news) (h1 : ∀ u ∈ news, u.oneCell' = true)
    (h63 : n + m ≤ maxLen) (hbytes : (n + m) * bytes ≤ 140737488355328) (hbase : base ≤ w.heap.size)
    (h : ∀ v' w', w'.ownsRow base e size v' (n + m) (xs ++ news) → w.grownBy w' v.ownBlock → (v'.ownBlock = v.ownBlock ∨ v'.ownBlock = some w.heap.size) → K (a.put o.dst v') w') : o.wp P a w K Q := by
  obtain ⟨v', w', hrun, h2, h3, h4⟩ := run_append_any (P := P) w base t o.type e i z size bytes ht hi hz hsize hby hzs hsz v n xs hown B A m c news hr h1 h63 hbytes hbase
  unfold Oper.wp execOp
  simp only [ho, resolve, invoke, builtin, Sem.run_bind, Sem.run_pure, Result.andThen_ok, List.map_toArray, List.map_cons, List.map_nil, hs, hx, hrun]
  exact h v' w' h2 h3 h4
theorem wpList_append_any {ops : Array Oper} {rest : List Oper} {o : Oper} {a : Act} {Q : Exit → Act → World → Prop} (hgd : o.guard = none) (s x : Operand) (t : TypeId)
    (ho : o.op = .call { callee := .builtin .append, args := #[s, x], argTypes := #[t, t] })
    (base : Nat) (e : TypeId) (i : TypeInfo) (z : Value) (size bytes : Nat) (ht : P.underlying t = some (.slice e)) (hi : P.info? e = some i) (hz : i.zero = some z)
    (hsize : i.size = size) (hby : i.bytes = bytes) (hzs : z.cells.size = size) (hsz : 0 < size)
    (v : Value) (n : Nat) (xs : List Value) (hs : a.eval s = v) (hown : w.ownsRow base e size v n xs)
    (B : Nat) (A : Option Addr) (m c : Nat) (news : List Value) (hx : a.eval x = .slice A m c) (hr : Reads w B size A m news) (h1 : ∀ u ∈ news, u.oneCell' = true)
    (h63 : n + m ≤ maxLen) (hbytes : (n + m) * bytes ≤ 140737488355328) (hbase : base ≤ w.heap.size)
    (h : ∀ v' w', w'.ownsRow base e size v' (n + m) (xs ++ news) → w.grownBy w' v.ownBlock → (v'.ownBlock = v.ownBlock ∨ v'.ownBlock = some w.heap.size) → wpList P ops Q rest (a.put o.dst v') w') : wpList P ops Q (o :: rest) a w :=
  wpList_plain hgd fun _ hK => wp_append_any w s x t ho base e i z size bytes ht hi hz hsize hby hzs hsz v n xs hs hown B A m c news hx hr h1 h63 hbytes hbase fun v' w' h2 h3 h4 => hK _ _ (h v' w' h2 h3 h4)
theorem step_append_any {ops : Array Oper} {o : Oper} {a : Act} {K : Act → World → Prop} {Q : Exit → Act → World → Prop} {E : Prop} (hgd : o.guard = none) (s x : Operand) (t : TypeId)
    (ho : o.op = .call { callee := .builtin .append, args := #[s, x], argTypes := #[t, t] })
    (base : Nat) (e : TypeId) (i : TypeInfo) (z : Value) (size bytes : Nat) (ht : P.underlying t = some (.slice e)) (hi : P.info? e = some i) (hz : i.zero = some z)
    (hsize : i.size = size) (hby : i.bytes = bytes) (hzs : z.cells.size = size) (hsz : 0 < size)
    (v : Value) (n : Nat) (xs : List Value) (hs : a.eval s = v) (hown : w.ownsRow base e size v n xs)
    (B : Nat) (A : Option Addr) (m c : Nat) (news : List Value) (hx : a.eval x = .slice A m c) (hr : Reads w B size A m news) (h1 : ∀ u ∈ news, u.oneCell' = true)
    (h63 : n + m ≤ maxLen) (hbytes : (n + m) * bytes ≤ 140737488355328) (hbase : base ≤ w.heap.size)
    (h : ∀ v' w', w'.ownsRow base e size v' (n + m) (xs ++ news) → w.grownBy w' v.ownBlock → (v'.ownBlock = v.ownBlock ∨ v'.ownBlock = some w.heap.size) → K (a.put o.dst v') w') :
    if Region.wanted o (yielded ops a.tmps) = true then Oper.wp P o a w K Q else E := by
  have hw : Region.wanted o (yielded ops a.tmps) = true := by simp [Region.wanted, hgd]
  rw [if_pos hw]
  exact wp_append_any w s x t ho base e i z size bytes ht hi hz hsize hby hzs hsz v n xs hs hown B A m c news hx hr h1 h63 hbytes hbase h
end
section
variable {α : Type} {enc : α → List Value} {sz : Nat} {w w' : World} {B B' n : Nat} {A : Option Addr} {L : List α}
theorem flat_at (he : ∀ x, (enc x).length = sz) : ∀ (L : List α) (j : Nat) (u : Value), (flat enc L)[j]? = some u → ∃ k x i, L[k]? = some x ∧ (enc x)[i]? = some u ∧ j = k * sz + i := by
  intro L
  induction L with
  | nil => intro j u h; simp [flat] at h
  | cons y L ih =>
    intro j u h
    simp only [flat, List.flatMap_cons] at h
    rcases Nat.lt_or_ge j (enc y).length with hj | hj
    · rw [List.getElem?_append_left hj] at h
      exact ⟨0, y, j, rfl, h, by omega⟩
    · rw [List.getElem?_append_right hj] at h
      obtain ⟨k, x, i, h1, h2, h3⟩ := ih _ _ h
      rw [he] at h3 hj
      exact ⟨k + 1, x, i, by simpa using h1, h2, by rw [Nat.add_mul]; omega⟩
theorem SlR.reads (he : ∀ x, (enc x).length = sz) (h : SlR enc sz w B A n L) : Reads w B sz A n (flat enc L) := by
  refine ⟨by rw [flat_length he, h.1], fun hn => ?_⟩
  rcases h.2 with h0 | ⟨b, off, rfl, hb, hC⟩
  · omega
  · refine ⟨_, rfl, hb, fun j u hu => ?_⟩
    obtain ⟨k, x, i, h1, h2, rfl⟩ := flat_at he L j u hu
    have := hC k x h1 i u h2
    have hadd : (⟨b, off, none⟩ : Addr).add (k * sz + i) = ⟨b, off + k * sz + i, none⟩ := by unfold Addr.add; split <;> simp_all [Nat.add_assoc]
    rw [hadd]; exact this
theorem SlR.grown (h : SlR enc sz w B A n L) {row : Option Nat} (hg : w.grownBy w' row) (hB : B ≤ w.heap.size) (hne : ∀ b off, A = some ⟨b, off, none⟩ → row ≠ some b) : SlR enc sz w' B A n L :=
  ⟨h.1, h.2.imp id fun ⟨b, off, e, hb, hc⟩ => ⟨b, off, e, hb, hc.keep fun _ => World.cell?_of_block (hg.block b (by omega) (fun e' => hne b off e e'.symm))⟩⟩
theorem Reads.new (w : World) (t : TypeId) (cs : Array Value) (hs : cs.size = n * sz) : Reads (w.alloc (.cells cs t)) (w.heap.size + 1) sz (some ⟨w.heap.size, 0, none⟩) n cs.toList := by
  refine ⟨by simpa using hs, fun _ => ⟨_, rfl, by simp, fun j u hu => ?_⟩⟩
  have hadd : (⟨w.heap.size, 0, none⟩ : Addr).add j = ⟨w.heap.size, j, none⟩ := by unfold Addr.add; split <;> simp_all
  rw [hadd, (Blk.new w t cs).cell]; simpa using hu
end
theorem Reads.new_at {w : World} {n sz g : Nat} (hg : w.heap.size = g) (t : TypeId) (cs : Array Value) (hs : cs.size = n * sz) : Reads (w.alloc (.cells cs t)) (g + 1) sz (some ⟨g, 0, none⟩) n cs.toList := by
  subst hg; exact Reads.new w t cs hs
theorem Blk.new_at {w : World} {g : Nat} (hg : w.heap.size = g) (t : TypeId) (cs : Array Value) : Blk (w.alloc (.cells cs t)) g t cs := by subst hg; exact Blk.new w t cs
section
variable {w w' : World} {base : Nat} {e : TypeId} {sz : Nat} {v : Value} {n : Nat} {xs : List Value}
/-- what an owned row looks like -/
theorem own_form (h : w.ownsRow base e sz v n xs) : ∃ A c, v = .slice A n c ∧ n ≤ c ∧ c ≤ maxLen ∧ (n = 0 ∨ ∃ g, A = some ⟨g, 0, none⟩ ∧ base ≤ g ∧ g < w.heap.size) := by
  rcases h.2 with ⟨rfl, h0⟩ | ⟨g, cap, cur, rfl, hb, hg, h1, h2, _⟩
  · exact ⟨none, 0, by rw [h0], by omega, by simp [maxLen], .inl h0⟩
  · exact ⟨_, cap, rfl, h1, h2, .inr ⟨g, rfl, hb, (Array.getElem?_eq_some_iff.1 hg).1⟩⟩
theorem own_below {B : Nat} (h : w.ownsRow base e sz v n xs) (hb : Below B w w') (hB : w.heap.size ≤ B) : w'.ownsRow base e sz v n xs := by
  refine ⟨h.1, ?_⟩
  rcases h.2 with hn | ⟨g, cap, cur, rfl, hb', hg, rest⟩
  · exact .inl hn
  · have := (Array.getElem?_eq_some_iff.1 hg).1
    exact .inr ⟨g, cap, cur, rfl, hb', (hb.block g (by omega)).trans hg, rest⟩
theorem own_far (h : w.ownsRow base e sz v n xs) {g : Nat} (hg : v.ownBlock ≠ some g) (o : Nat) (u : Value) : (w.setCell ⟨g, o, none⟩ u).ownsRow base e sz v n xs := by
  refine ⟨h.1, ?_⟩
  rcases h.2 with hn | ⟨g', cap, cur, rfl, hb', hh, rest⟩
  · exact .inl hn
  · refine .inr ⟨g', cap, cur, rfl, hb', (Below.heap_setCell w ⟨g, o, none⟩ u g' ?_).trans hh, rest⟩
    rintro rfl
    exact hg (by simp [Value.ownBlock])
theorem own_base {base' : Nat} (h : w.ownsRow base e sz v n xs) (hb : base' ≤ base) : w.ownsRow base' e sz v n xs :=
  ⟨h.1, h.2.imp id fun ⟨g, cap, cur, a, b, c⟩ => ⟨g, cap, cur, a, by omega, c⟩⟩
end
end Go.Proofs.YtpkomloblhbkiaaGreatDoor
namespace Go.Proofs.YtpkomloblhbkiaaGreatDoor
open Go.RowKit
def isB (x : Int) : Bool := decide (0 ≤ x) && decide (x ≤ 4294967295)
section
variable {α : Type} {f : α → Bool} {L : List α} {k : Nat} {x : α}
theorem allTo_succ (h : L[k]? = some x) (hu : (L.take k).all f = true) (hl : f x = true) : (L.take (k + 1)).all f = true := by
  obtain ⟨hk, he⟩ := List.getElem?_eq_some_iff.1 h
  rw [List.take_succ_eq_append_getElem hk, List.all_append, hu, he]; simp [hl]
theorem all_no (h : L[k]? = some x) (hl : f x = false) : L.all f = false := by rw [List.all_eq_false]; exact ⟨x, List.mem_of_getElem? h, by simp [hl]⟩
theorem all_end (h : (L.take L.length).all f = true) : L.all f = true := by rwa [List.take_length] at h
end
set_option maxHeartbeats 400000 in
theorem is_any (L : List Int) (A : Option Addr) (n c : Nat) (w : World) (hL : SlR encI 1 w w.heap.size A n L) (hn : n ≤ 140737488355328) :
    Calls Tryz.prog 72 #[.slice A n c] w fun e w' => e = .returned (.bool (L.all isB)) ∧ w = w' := by
  obtain ⟨rfl, hA⟩ := hL
  have HEnd : Hid ((L.take L.length).all isB = true → L.all isB = true) := all_end
  have HNo : Hid (∀ (k : Nat) (x : Int), L[k]? = some x → isB x = false → L.all isB = false) := fun k x => all_no
  generalize hv : L.all isB = v at HEnd HNo ⊢
  clear hv
  rcases hA with h0 | ⟨b, off, rfl, hb, hC⟩
  · have hL0 : L = [] := List.eq_nil_of_length_eq_zero h0
    subst hL0
    go_enter Tryz.func72, Tryz.ntmps72
    go_wp2
    go_rounds 1
    go_ret
    exact ⟨ret_bool (HEnd.out rfl).symm, rfl⟩
  · have HC := Lib.hid hC
    clear hC
    go_enter Tryz.func72, Tryz.ntmps72
    go_wp2
    go_loop [7] (fun i => ∃ k : Nat, k ≤ L.length ∧ i = .int .i64 k ∧ Hid ((L.take k).all isB = true)) (fun i => L.length - (intOf i).toNat)
    case atStart => exact ⟨0, Nat.zero_le _, rfl, rfl⟩
    case round =>
      obtain ⟨k, hk, rfl, HU⟩ := hrel
      by_cases hlt : k < L.length
      · obtain ⟨x, hx⟩ : ∃ x, L[k]? = some x := ⟨L[k], List.getElem?_eq_getElem hlt⟩
        have c0 := HC.out.int hx
        have HX := Lib.hid hx
        clear hx
        by_cases h0 : x < 0
        · go_wp2
          go_ret
          exact ⟨ret_bool (HNo.out k x HX.out (by simp [isB]; omega)).symm, rfl⟩
        · by_cases h1 : 4294967295 < x
          · go_wp2
            go_ret
            exact ⟨ret_bool (HNo.out k x HX.out (by simp [isB]; omega)).symm, rfl⟩
          · go_wp2
            go_round
            case rel => exact ⟨k + 1, by omega, by go_num, allTo_succ HX.out HU.out (by simp [isB]; omega)⟩
            case measure => simp [intOf]; omega
      · obtain rfl : k = L.length := by omega
        go_wp2
        go_ret
        exact ⟨ret_bool (HEnd.out HU.out).symm, rfl⟩
/-- words, as numbers -/
def words (L : List Nat) : Prop := ∀ n ∈ L, n < 4294967296
theorem words_is {L : List Nat} (h : words L) : (ints L).all isB = true := by
  rw [List.all_eq_true]
  intro x hx
  obtain ⟨n, hn, rfl⟩ := List.mem_map.1 hx
  have := h n hn
  simp [isB]; omega
/-- a new row of numbers, as a slice -/
theorem slr_new (w : World) (L : List Nat) {W : World} {g B : Nat} (hW : Blk W g 3 ((ints L).map (fun x => Value.int .i64 x)).toArray) (hB : g < B) : SlR encI 1 W B (some ⟨g, 0, none⟩) L.length (ints L) := by
  refine SlR.ofC (by simp [ints]) hB ?_
  intro k x hx j v hv
  have hj : j = 0 := by
    have := (List.getElem?_eq_some_iff.1 hv).1
    simp [encI] at this; omega
  subst hj
  simp [encI] at hv
  subst hv
  have := hW.cell k
  rw [Nat.mul_one, Nat.zero_add, Nat.add_zero, this]
  simp [hx]
theorem slr_new2 (w : World) (a b : Nat) : SlR encI 1 (w.alloc (.cells #[.int .i64 a, .int .i64 b] 3)) (w.alloc (.cells #[.int .i64 a, .int .i64 b] 3)).heap.size (some ⟨w.heap.size, 0, none⟩) 2 (ints [a, b]) := slr_new w [a, b] (Blk.new w _ _) (by simp)
theorem slr_new1 (w : World) (a : Nat) : SlR encI 1 (w.alloc (.cells #[.int .i64 a] 3)) (w.alloc (.cells #[.int .i64 a] 3)).heap.size (some ⟨w.heap.size, 0, none⟩) 1 (ints [a]) := slr_new w [a] (Blk.new w _ _) (by simp)
def sumW (L : List Nat) : Nat := L.foldl (fun s x => (s + x) % 4294967296) 0
theorem sumW_snoc {L : List Nat} {k x : Nat} (h : L[k]? = some x) : sumW (L.take (k + 1)) = (sumW (L.take k) + x) % 4294967296 := by
  unfold sumW
  have : L.take (k + 1) = L.take k ++ [x] := by rw [List.take_add_one, h]; rfl
  rw [this, List.foldl_append]; rfl
theorem sumW_lt (L : List Nat) : sumW L < 4294967296 := by
  unfold sumW
  rcases List.eq_nil_or_concat L with rfl | ⟨M, x, rfl⟩
  · decide
  · rw [List.concat_eq_append, List.foldl_append]
    exact Nat.mod_lt _ (by decide)
set_option maxHeartbeats 400000 in
theorem wadd_any (L : List Nat) (A : Option Addr) (n c : Nat) (w : World) (hL : SlR encI 1 w w.heap.size A n (ints L)) (hn : n ≤ 140737488355328) (hw : words L) :
    Calls Tryz.prog 105 #[.slice A n c] w fun e w' => e = .returned (.tuple #[.int .i64 (sumW L : Nat), .bool true]) ∧ w = w' := by
  have HI := Lib.hid (words_is hw)
  have HL := Lib.hid hL
  have HW := Lib.hid hw
  obtain ⟨hl, hA⟩ := hL
  have hl2 : L.length = n := by simpa [ints] using hl
  have HN := Lib.hid hl2
  clear hw hl hl2
  go_enter Tryz.func105, Tryz.ntmps105
  go_wp2_with fail
  refine (is_any (ints L) A n c w HL.out hn).mono ?_
  rintro e w1 ⟨rfl, rfl⟩
  rw [HI.out]
  rcases hA with h0 | ⟨b, off, rfl, hb, hC⟩
  · subst h0
    have hL0 : L = [] := List.eq_nil_of_length_eq_zero HN.out
    clear HL HI HW
    subst hL0
    go_wp2_with fail
    go_rounds 1
    go_ret2
    exact ⟨rfl, rfl⟩
  · have HC := Lib.hid hC
    clear hC
    go_wp2_with fail
    go_loop [4, 12] (fun s i => ∃ k : Nat, k ≤ n ∧ i = .int .i64 k ∧ s = .int .i64 (sumW (L.take k) : Nat)) (fun _ i => n - (intOf i).toNat)
    case atStart => exact ⟨0, Nat.zero_le _, rfl, rfl⟩
    case round =>
      obtain ⟨k, hk, rfl, rfl⟩ := hrel
      by_cases hlt : k < n
      · obtain ⟨x, hx⟩ : ∃ x, L[k]? = some x := ⟨L[k]'(by rw [HN.out]; exact hlt), List.getElem?_eq_getElem _⟩
        have c0 := HC.out.int (ints_get hx)
        have hxw := HW.out x (List.mem_of_getElem? hx)
        have HS := Lib.hid (sumW_snoc hx)
        have hs := sumW_lt (L.take k)
        generalize sumW (L.take k) = s at HS hs ⊢
        have hm : bits .and .i64 ((s : Int) + (x : Int)) 4294967295 = (((s + x) % 4294967296 : Nat) : Int) := by
          rw [← i64_mask32 (s + x) (by omega)]; rfl
        clear hx
        go_wp2_with fail
        go_round
        case rel => exact ⟨k + 1, by omega, by go_num, by rw [HS.out]; exact congrArg (Value.int .i64) (by omega)⟩
        case measure => simp [intOf]; omega
      · obtain rfl : k = n := by omega
        go_wp2_with fail
        go_ret2
        exact ⟨by rw [← HN.out, List.take_length]; rfl, rfl⟩
set_option maxHeartbeats 400000 in
theorem wxor_any (a b : Nat) (w : World) (ha : a < 4294967296) (hb : b < 4294967296) :
    Calls Tryz.prog 106 #[.int .i64 a, .int .i64 b] w fun e w' => e = .returned (.tuple #[.int .i64 (a ^^^ b : Nat), .bool true]) ∧ w.alloc (.cells #[.int .i64 a, .int .i64 b] 3) = w' := by
  have hx := i64_xor_nat a b (by omega) (by omega)
  have HI := Lib.hid (words_is (L := [a, b]) (by intro n hn; simp at hn; omega))
  go_enter Tryz.func106, Tryz.ntmps106
  go_wp2_with fail
  refine (is_any (ints [a, b]) _ 2 2 _ (slr_new2 w a b) (by omega)).mono ?_
  rintro e w1 ⟨rfl, rfl⟩
  rw [HI.out]
  go_wp2_with fail
  go_ret2
  exact ⟨rfl, rfl⟩
end Go.Proofs.YtpkomloblhbkiaaGreatDoor
