/- twin.body: a map that the call makes. -/
import Derived.Test.YtpkomloblhbkiaaGreatDoorPlatK
import Derived.Test.YtpkomloblhbkiaaGreatDoorWordA
import Derived.Deep.RegionHeld3
import Derived.Test.YtpkomloblhbkiaaGreatDoorBytes
import Derived.Maps.Own
import Derived.Maps.OwnOps
import Derived.Maps.OwnSet
import Derived.Maps.Views
set_option linter.unusedVariables false
/- platter: the references Texts, Same, Big, and the laws' far. -/
namespace Go.Proofs.YtpkomloblhbkiaaGreatDoor
open Go.RowKit
end Go.Proofs.YtpkomloblhbkiaaGreatDoor
/- platter: Big, and the laws' far. -/
namespace Go.Proofs.YtpkomloblhbkiaaGreatDoor
open Go.RowKit
section
variable {α : Type} {f : α → Bool} {L : List α} {k : Nat} {x : α}
end
end Go.Proofs.YtpkomloblhbkiaaGreatDoor
/- the laws' helpers of chapter 13: spins. -/
namespace Go.Proofs.YtpkomloblhbkiaaGreatDoor
open Go.RowKit
theorem PlatOut.at_ {w : World} {B : Nat} {v : Value} {p : Plat} (h : PlatOut w B v p) : ∃ A c A' c', v = .agg #[.slice A p.sectors.length c, .slice A' p.cache.length c'] ∧ PlatPre w A p.sectors.length A' p.cache.length p := by
  obtain ⟨A, c, A', c', rfl, h1, h2⟩ := h
  exact ⟨A, c, A', c', rfl, PlatAt.pre ⟨SlR.of_own encS_len h1 rfl, SlR.of_own encP_len h2 rfl⟩⟩
theorem PlatPre.on {w w1 : World} {A A' : Option Addr} {n m : Nat} {p : Plat} (h : PlatPre w A n A' m p) (hb : Below w.heap.size w w1) : PlatPre w1 A n A' m p := (h.out w1 hb).pre
end Go.Proofs.YtpkomloblhbkiaaGreatDoor
/- chapter 13, plain: what the platter's operations keep. -/
namespace Go.Proofs.YtpkomloblhbkiaaGreatDoor
open Go.RowKit
theorem write_ok {p : Plat} {i : Int} {s : ByteArray} (h : (writeF p i s).2 = 0) : checkP p = true ∧ hasB p.sectors.length i = true ∧ s.size ≤ 128 ∧ p.cache.length < 100 ∧ (writeF p i s).1 = ⟨p.sectors, p.cache ++ [⟨i, s⟩]⟩ := by
  unfold writeF oneF at *
  by_cases h1 : checkP p = true
  · by_cases h2 : hasB p.sectors.length i = true
    · by_cases h3 : s.size ≤ 128
      · by_cases h4 : 100 ≤ p.cache.length
        · simp [h1, h2, h3, h4] at h
        · simp only [h1, h2, h3, h4, if_true, decide_false]
          refine ⟨trivial, trivial, trivial, by omega, rfl⟩
      · simp [h1, h2, h3] at h
    · simp [h1, h2] at h
  · simp [h1] at h
theorem put_ok {p : Plat} {i : Int} {s : ByteArray} (hc : checkP p = true) (hi : hasB p.sectors.length i = true) (hs : s.size ≤ 128) (hl : p.cache.length < 100) : checkP ⟨p.sectors, p.cache ++ [⟨i, s⟩]⟩ = true := by
  obtain ⟨a, b, c, d, e⟩ := (checkP_iff p).1 hc
  refine (checkP_iff _).2 ⟨a, b, by simp; omega, d, ?_⟩
  intro x hx
  simp only [List.mem_append, List.mem_singleton] at hx
  rcases hx with hx | rfl
  · exact e x hx
  · simp only [putB, longB, hi, Bool.and_true, Bool.not_eq_true', decide_eq_false_iff_not]; omega
theorem lastP_snoc (L : List PPut) (x : PPut) (i : Nat) : lastP (L ++ [x]) i = if x.pos = (i : Int) then some x else lastP L i := by
  unfold lastP
  rw [List.reverse_append]
  by_cases h : x.pos = (i : Int) <;> simp [h]
/-- what a sector has behind the first k texts is what is read of them -/
theorem settle1_get (p : Plat) (hc : checkP p = true) (i : Nat) (hi : i < p.sectors.length) : ∀ k, k ≤ p.cache.length →
    (settleTo p (fun _ => 1) k).sectors.getD i ByteArray.empty = readOf ⟨p.sectors, p.cache.take k⟩ i := by
  obtain ⟨_, _, _, _, e⟩ := (checkP_iff p).1 hc
  intro k
  induction k with
  | zero => intro _; simp [settleTo, readOf, lastP]
  | succ k ih =>
    intro hk
    have hx : p.cache[k]? = some (p.cache[k]'(by omega)) := List.getElem?_eq_getElem (by omega)
    generalize p.cache[k]'(by omega) = x at hx
    have hp := e x (List.mem_of_getElem? hx)
    have ht : p.cache.take (k + 1) = p.cache.take k ++ [x] := by rw [List.take_add_one, hx]; rfl
    have hg : p.cache.getD k noPut = x := by simp [List.getD, hx]
    have hl := (settleTo_keeps p (fun _ => 1) hc k (by omega)).1
    rw [settleTo, hg, ht]
    have h1 : fallF (settleTo p (fun _ => 1) k) x 1 = { settleTo p (fun _ => 1) k with sectors := (settleTo p (fun _ => 1) k).sectors.set x.pos.toNat x.text } := by simp [fallF]
    simp only [h1]
    simp only [putB, hasB, Bool.and_eq_true, decide_eq_true_eq] at hp
    unfold readOf
    rw [lastP_snoc]
    by_cases hxi : x.pos = (i : Int)
    · rw [if_pos hxi]
      have : x.pos.toNat = i := by omega
      rw [this]
      simp only [List.getD, List.getElem?_set_self (show i < (settleTo p (fun _ => 1) k).sectors.length by omega), Option.getD_some]
    · rw [if_neg hxi]
      have : x.pos.toNat ≠ i := by omega
      have := ih (by omega)
      unfold readOf at this
      rw [← this]
      simp only [List.getD, List.getElem?_set_ne ‹x.pos.toNat ≠ i›]
theorem sync_ok {p : Plat} (hc : checkP p = true) : (syncF p).2 = 0 ∧ (syncF p).1.cache = [] ∧ (syncF p).1.sectors.length = p.sectors.length ∧ checkP (syncF p).1 = true ∧
    ∀ i, i < p.sectors.length → (syncF p).1.sectors.getD i ByteArray.empty = readOf p i := by
  have e : syncF p = (⟨(settleTo p (fun _ => 1) p.cache.length).sectors, []⟩, 0) := by unfold syncF settleF; rw [if_pos hc]
  obtain ⟨k1, k2, _⟩ := settleTo_keeps p (fun _ => 1) hc p.cache.length (Nat.le_refl _)
  obtain ⟨a, b, c, _, _⟩ := (checkP_iff p).1 hc
  rw [e]
  refine ⟨rfl, rfl, k1, (checkP_iff _).2 ⟨by simp only; omega, by simp only; omega, by simp, k2, by simp⟩, ?_⟩
  intro i hi
  have := settle1_get p hc i hi p.cache.length (Nat.le_refl _)
  rw [List.take_length] at this
  exact this
theorem readOf_bare (S : List ByteArray) (i : Nat) : readOf ⟨S, []⟩ i = S.getD i ByteArray.empty := by simp [readOf, lastP]
theorem readF_ok {p : Plat} (hc : checkP p = true) (i : Int) : readF p i = if hasB p.sectors.length i = true then (readOf p i.toNat, 0) else (ByteArray.empty, 130) := by unfold readF; rw [if_pos hc]
theorem hasB_iff (n : Nat) (i : Int) : hasB n i = true ↔ 0 ≤ i ∧ i < n := by simp [hasB]
theorem read_sync {p : Plat} (hc : checkP p = true) (i : Int) : readF (syncF p).1 i = readF p i := by
  obtain ⟨_, h2, h3, h4, h5⟩ := sync_ok hc
  rw [readF_ok hc, readF_ok h4, h3]
  by_cases hb : hasB p.sectors.length i = true
  · rw [if_pos hb, if_pos hb]
    have hi := (hasB_iff _ _).1 hb
    have e : (syncF p).1 = ⟨(syncF p).1.sectors, []⟩ := by rw [← h2]
    rw [e, readOf_bare, h5 _ (by omega)]
  · rw [if_neg hb, if_neg hb]
end Go.Proofs.YtpkomloblhbkiaaGreatDoor
/- chapter 13, plain: a platter with an empty cache settles to itself. -/
namespace Go.Proofs.YtpkomloblhbkiaaGreatDoor
open Go.RowKit
theorem settle_bare {p : Plat} (hc : checkP p = true) (h : p.cache = []) (f : Nat → Int) : settleF p f = (p, 0) := by
  obtain ⟨S, C⟩ := p
  dsimp only at h
  subst h
  unfold settleF
  rw [if_pos hc]
  rfl
end Go.Proofs.YtpkomloblhbkiaaGreatDoor
/- chapter 13, plain: what a crash does (for PlatterCrash). -/
namespace Go.Proofs.YtpkomloblhbkiaaGreatDoor
open Go.RowKit
def touchB (L : List PPut) (i : Nat) : Bool := L.any fun x => decide (x.pos = (i : Int))
theorem touch_snoc {L : List PPut} {k : Nat} {x : PPut} (h : L[k]? = some x) (i : Nat) : touchB (L.take (k + 1)) i = (touchB (L.take k) i || decide (x.pos = (i : Int))) := by
  unfold touchB
  rw [List.take_add_one, h, List.any_append]
  simp
theorem fallF_far (p : Plat) (x : PPut) (f : Int) (i : Nat) (h0 : 0 ≤ x.pos) (h : x.pos ≠ (i : Int)) : (fallF p x f).sectors[i]? = p.sectors[i]? := by
  have : x.pos.toNat ≠ i := by omega
  unfold fallF
  split
  · rfl
  · split <;> simp only [List.getElem?_set_ne this]
theorem settleTo_far (p : Plat) (hc : checkP p = true) (f : Nat → Int) (i : Nat) : ∀ k, k ≤ p.cache.length → touchB (p.cache.take k) i = false → (settleTo p f k).sectors[i]? = p.sectors[i]? := by
  obtain ⟨_, _, _, _, hx⟩ := (checkP_iff p).1 hc
  intro k
  induction k with
  | zero => intro _ _; rfl
  | succ k ih =>
    intro hk ht
    have hg : p.cache[k]? = some (p.cache[k]'(by omega)) := List.getElem?_eq_getElem (by omega)
    generalize p.cache[k]'(by omega) = x at hg
    have hp := hx x (List.mem_of_getElem? hg)
    simp only [putB, hasB, Bool.and_eq_true, decide_eq_true_eq] at hp
    rw [touch_snoc hg] at ht
    simp only [Bool.or_eq_false_iff, decide_eq_false_iff_not] at ht
    have hd : p.cache.getD k noPut = x := by simp [List.getD, hg]
    rw [settleTo, hd, fallF_far _ _ _ _ hp.2.1 ht.2]
    exact ih (by omega) ht.1
theorem crash_ok {p : Plat} (hc : checkP p = true) (F : List Int) : (crashF p F).2 = 0 ∧ (crashF p F).1.sectors.length = p.sectors.length ∧ (crashF p F).1.cache = [] ∧ checkP (crashF p F).1 = true ∧
    (∀ i, touchB p.cache i = false → (crashF p F).1.sectors[i]? = p.sectors[i]?) := by
  have e : crashF p F = (⟨(settleTo p (fun k => F.getD k 0) p.cache.length).sectors, []⟩, 0) := by unfold crashF settleF; rw [if_pos hc]
  obtain ⟨k1, k2, _⟩ := settleTo_keeps p (fun k => F.getD k 0) hc p.cache.length (Nat.le_refl _)
  obtain ⟨a, b, c, _, _⟩ := (checkP_iff p).1 hc
  rw [e]
  refine ⟨rfl, k1, rfl, (checkP_iff _).2 ⟨by simp only; omega, by simp only; omega, by simp, k2, by simp⟩, ?_⟩
  intro i hi
  exact settleTo_far p hc _ i _ (Nat.le_refl _) (by rwa [List.take_length])
/-- what is known of the row 'touched' behind k texts -/
def TouchOk (p : Plat) (k : Nat) (T : List Bool) : Prop := T.length = p.sectors.length ∧ ∀ i : Nat, T[i]? = some false → touchB (p.cache.take k) i = false
theorem TouchOk.zero (p : Plat) : TouchOk p 0 (List.replicate p.sectors.length false) := ⟨by simp, fun i _ => rfl⟩
end Go.Proofs.YtpkomloblhbkiaaGreatDoor
/- chapter 13, PlatterNew: the walk. -/
namespace Go.Proofs.YtpkomloblhbkiaaGreatDoor
open Go.RowKit
end Go.Proofs.YtpkomloblhbkiaaGreatDoor
namespace Go.Proofs.YtpkomloblhbkiaaGreatDoor
open Go.RowKit
theorem wpList_insert_own {H : Type} {P : Program} (w : World) {ops : Array Oper} {rest : List Oper} {o : Oper} {a : Act} {Q : Exit → Act → World → Prop}
    (hg : o.guard = none) (m x v : Operand) (t : TypeId) (hop : o.op = Op.insert t m x v)
    (k e : TypeId) (K : Maps.Keyed P k) (ht : P.underlying t = some (.map k e)) (R : Value → Option (DataW H × List MemPlace)) (b n : Nat) (D : DataW H)
    (hm : a.eval m = .map (some b)) (hown : w.ownsMap P k R b n D) (hn : n < maxLen) (key val : Value) (kl : Lit) (hx : a.eval x = key) (hv : a.eval v = val) (hkey : keyOf P k key = some kl)
    (d : DataW H) (ps : List MemPlace) (hval : R val = some (d, ps))
    (hK : ∀ w', w'.ownsMap P k R b (n + 1) (D.put kl d) → w.grownBy w' (some b) → wpList P ops Q rest (a.put o.dst undef) w') :
    wpList P ops Q (o :: rest) a w := by
  refine wpList_plain hg fun K' hK' => ?_
  obtain ⟨w', hrun, r1, r2⟩ := hown.update K ht hn hkey hval
  unfold Oper.wp
  simp [execOp, hop, hm, hx, hv, hrun, Result.andThen]
  exact hK' _ _ (hK w' r1 r2)
def bodyF (m : ByteArray) : Int × Bool := if m = ⟨#[48]⟩ then (1, true) else if m = ⟨#[49]⟩ then (2, true) else (0, false)
def twoD : DataW Unit := ((DataW.map []).put (.string [48]) (.lit (.int .i64 1))).put (.string [49]) (.lit (.int .i64 2))
theorem twoD_at (m : ByteArray) : Maps.has twoD (.string m.data.toList) = (bodyF m).2 ∧ twoD.atKey (.string m.data.toList) (.lit (.int .i64 0)) = .lit (.int .i64 (bodyF m).1) := by
  have inj : ∀ l : List UInt8, m.data.toList = l → m = ⟨l.toArray⟩ := by
    intro l h
    obtain ⟨⟨d⟩⟩ := m
    simp at h
    subst h
    rfl
  unfold twoD bodyF
  by_cases h1 : m = ⟨#[49]⟩
  · subst h1
    have hk : WideAt.IsKeyLit (.string (⟨#[49]⟩ : ByteArray).data.toList) := trivial
    have hne : (⟨#[49]⟩ : ByteArray) ≠ ⟨#[48]⟩ := by decide
    rw [if_neg hne, if_pos rfl]
    exact ⟨Maps.has_put_same (Maps.isMap_empty.put _ _) hk _, Maps.atKey_put_same (Maps.isMap_empty.put _ _) hk _ _⟩
  · have n1 : (Lit.string m.data.toList) ≠ .string [49] := by
      intro h
      injection h with h
      exact h1 (inj _ h)
    rw [Maps.has_put_other n1, Maps.atKey_put_other n1]
    by_cases h0 : m = ⟨#[48]⟩
    · subst h0
      have hk : WideAt.IsKeyLit (.string (⟨#[48]⟩ : ByteArray).data.toList) := trivial
      rw [if_pos rfl]
      exact ⟨Maps.has_put_same Maps.isMap_empty hk _, Maps.atKey_put_same Maps.isMap_empty hk _ _⟩
    · have n0 : (Lit.string m.data.toList) ≠ .string [48] := by
        intro h
        injection h with h
        exact h0 (inj _ h)
      rw [Maps.has_put_other n0, Maps.atKey_put_other n0, if_neg h0, if_neg h1]
      exact ⟨rfl, rfl⟩
theorem str_keyed : Maps.Keyed Tryz.prog 9 := Maps.string_keyed Tryz.underlying9
theorem int_zero (w : World) : (zeroValue 3).run Tryz.prog w = .ok (.int .i64 0) w := by kernel_rfl
set_option maxRecDepth 100000 in
set_option maxHeartbeats 400000 in
theorem body_any (m : ByteArray) (w : World) (hm : m.size ≤ maxLen) :
    Calls Tryz.prog 80 #[.string m] w fun e w' => e = .returned (.tuple #[.int .i64 (bodyF m).1, .bool (bodyF m).2]) ∧ Below w.heap.size w w' := by
  obtain ⟨hhas, hat⟩ := twoD_at m
  generalize bodyF m = r at hhas hat ⊢
  obtain ⟨r1, r2⟩ := r
  dsimp only at hhas hat ⊢
  have HH := Lib.hid (And.intro hhas hat)
  clear hhas hat
  have hmm := @run_makeMap Tryz.prog
  have hkey := WideMaps.keyOf_string_mk Tryz.underlying9 hm
  have HKEY := Lib.hid hkey
  clear hkey
  go_enter Tryz.func80, Tryz.ntmps80
  go_wp2_with (first
    | (refine wpList_insert_own (H := Unit) _ rfl (.tmp 7) (.const (.string ⟨#[48]⟩)) (.const (.int .i64 1)) 168 rfl 9 3 str_keyed Tryz.underlying168 (plainElem Tryz.prog 3) w.heap.size 0 (.map []) rfl (World.ownsMap_made _ _ _ _) (by decide) _ _ (.string [48]) rfl rfl (by kernel_rfl) (.lit (.int .i64 1)) [] (by kernel_rfl) ?_; intro w1 hown1 hg1)
    | (refine wpList_insert_own (H := Unit) _ rfl (.tmp 7) (.const (.string ⟨#[49]⟩)) (.const (.int .i64 2)) 168 rfl 9 3 str_keyed Tryz.underlying168 (plainElem Tryz.prog 3) w.heap.size 1 _ rfl hown1 (by decide) _ _ (.string [49]) rfl rfl (by kernel_rfl) (.lit (.int .i64 2)) [] (by kernel_rfl) ?_; intro w2 hown2 hg2)
    | (refine wpList_lookup_own_ok_int (H := Unit) _ rfl (.tmp 8) (.tmp 9) 168 rfl 9 3 .i64 str_keyed Tryz.underlying168 Tryz.underlying3 (int_zero _) w.heap.size 2 twoD rfl hown2 _ _ rfl HKEY.out ?_; intro c hc hwf; obtain rfl : c = r1 := by rw [HH.out.2] at hc; injection hc with hc; injection hc with _ hc; exact hc.symm))
  have hB1 : Below w.heap.size w w1 := Below.grown (by go_grown) hg1 (by simp) (by intro k h; injection h with h; subst h; exact Nat.le_refl _)
  have hB2 : Below w.heap.size w w2 := Below.grown hB1 hg2 hB1.size (by intro k h; injection h with h; subst h; exact Nat.le_refl _)
  clear hown1 hown2 hg1 hg2 hc
  go_ret2
  refine ⟨?_, hB2⟩
  rw [← HH.out.1]
  rfl
end Go.Proofs.YtpkomloblhbkiaaGreatDoor
/- twin.copied: a platter that shares nothing with another one. -/
namespace Go.Proofs.YtpkomloblhbkiaaGreatDoor
open Go.RowKit
set_option maxRecDepth 100000 in
set_option maxHeartbeats 1000000 in
theorem tcopied_any (p : Plat) (A A' : Option Addr) (n m c d : Nat) (w : World) (hP : PlatAt w w.heap.size A n A' m p) (hn : n ≤ 1000) (hm : m ≤ 1000) :
    Calls Tryz.prog 85 #[.agg #[.slice A n c, .slice A' m d]] w fun e w' => ∃ v, e = .returned v ∧ PlatOut w' w.heap.size v p ∧ Below w.heap.size w w' := by
  obtain ⟨i0, hi0, hz0, hz1, hz2⟩ := info_parts str_info
  obtain ⟨i1, hj0, hy0, hy1, hy2⟩ := info_parts put_info
  have HP := hP.pre
  obtain ⟨L, M⟩ := p
  obtain ⟨h1, h2⟩ := hP
  simp only at h1 h2
  have HL := Lib.hid (And.intro h1.1 h2.1)
  clear h1 h2
  go_enter Tryz.func85, Tryz.ntmps85
  go_wp2_with fail
  have hk := (Blk.new w 42 #[.slice A n c, .slice A' m d]).alloc (.cells #[.slice none 0 0, .slice none 0 0] 42)
  have hr := Blk.new_at (w := w.alloc (.cells #[.slice A n c, .slice A' m d] 42)) (g := w.heap.size + 1) (by simp) 42 #[.slice none 0 0, .slice none 0 0]
  have hB0 : Below w.heap.size w ((w.alloc (.cells #[.slice A n c, .slice A' m d] 42)).alloc (.cells #[.slice none 0 0, .slice none 0 0] 42)) := by go_grown
  have hs0 : ((w.alloc (.cells #[.slice A n c, .slice A' m d] 42)).alloc (.cells #[.slice none 0 0, .slice none 0 0] 42)).heap.size = w.heap.size + 2 := by simp
  have HB0 := Lib.hid hB0
  generalize hg : w.heap.size = g at *
  generalize (w.alloc (.cells #[.slice A n c, .slice A' m d] 42)).alloc (.cells #[.slice none 0 0, .slice none 0 0] 42) = W0 at *
  have hP0 := HP.step (by rw [hg]; exact hB0)
  have HS : Hid (∀ W, Below W0.heap.size W0 W → Reads W W0.heap.size 1 A n (flat encS L)) := fun W hb => (hP0.1.below hb).reads encS_len
  have HC : Hid (∀ W, Below W0.heap.size W0 W → Reads W W0.heap.size 2 A' m (flat encP M)) := fun W hb => (hP0.2.below hb).reads encP_len
  have HG := Lib.hid hg
  clear hB0 hP0 HP hg
  obtain ⟨B, hBe⟩ : ∃ B, B = W0.heap.size := ⟨_, rfl⟩
  rw [← hBe] at HS HC
  have HBE := Lib.hid hBe
  have q0 := hk.cells 0 _ rfl
  have q1 := hk.cells 1 _ rfl
  have r0 := hr.cells 0 _ rfl
  have r1 := hr.cells 1 _ rfl
  have rf := hr.frozen
  simp only [List.getElem_toArray, List.getElem_cons_zero, List.getElem_cons_succ] at q0 q1 r0 r1
  subst hBe
  go_region_law (first
    | (refine step_append_any _ rfl (.const (.slice none 0 0)) (.tmp 4) _ rfl W0.heap.size _ i0 _ 1 16 Tryz.underlying30 hi0 hz0 hz1 hz2 rfl (by omega) (.slice none 0 0) 0 [] rfl (World.ownsRow_nil _ _ _ _) W0.heap.size A n c (flat encS L) (by simp [Act.eval]) (HS.out _ (by first | exact hB2.drew | exact hB2 | exact (Below.refl _ _).drew | exact Below.refl _ _)) (one_flatS L) (by simp only [maxLen]; omega) (by omega) (by first | exact hB2.size | exact Nat.le_refl _) ?_; intro v1 w1 hown1 hg1 hat1; obtain ⟨A1, c1, rfl, _, _, _⟩ := own_form hown1; have hk1 : Blk w1 g 42 #[.slice A n c, .slice A' m d] := Blk.grown (w := _) (by first | exact hk2 | exact hk) hg1 (by simp [Value.ownBlock]); have hr1 : Blk w1 (g + 1) 42 #[.slice none 0 0, .slice none 0 0] := Blk.grown (w := _) (by first | exact hr2 | exact hr) hg1 (by simp [Value.ownBlock]); have hB1 : Below W0.heap.size W0 w1 := Below.grown (by first | exact hB2.drew | exact hB2 | exact (Below.refl _ _).drew | exact Below.refl _ _) hg1 (by first | exact hB2.size | exact Nat.le_refl _) (by simp [Value.ownBlock]); have qa1 := hk1.cells 0 _ rfl; have qb1 := hk1.cells 1 _ rfl; have ra1 := hr1.cells 0 _ rfl; have rb1 := hr1.cells 1 _ rfl; have rf1 := hr1.frozen; simp only [List.getElem_toArray, List.getElem_cons_zero, List.getElem_cons_succ] at qa1 qb1 ra1 rb1)
    | (refine step_append_any _ rfl (.const (.slice none 0 0)) (.tmp 7) _ rfl W0.heap.size _ i1 _ 2 24 Tryz.underlying40 hj0 hy0 hy1 hy2 rfl (by omega) (.slice none 0 0) 0 [] rfl (World.ownsRow_nil _ _ _ _) W0.heap.size A' m d (flat encP M) (by simp [Act.eval]) (HC.out _ (by first | exact hB1.drew | exact hB1 | exact (Below.refl _ _).drew | exact Below.refl _ _)) (one_flatP M) (by simp only [maxLen]; omega) (by omega) (by first | exact hB1.size | exact Nat.le_refl _) ?_; intro v2 w2 hown2 hg2 hat2; obtain ⟨A2, c2, rfl, _, _, _⟩ := own_form hown2; have hk2 : Blk w2 g 42 #[.slice A n c, .slice A' m d] := Blk.grown (w := _) (by first | exact hk1 | exact hk) hg2 (by simp [Value.ownBlock]); have hr2 : Blk w2 (g + 1) 42 #[.slice none 0 0, .slice none 0 0] := Blk.grown (w := _) (by first | exact hr1 | exact hr) hg2 (by simp [Value.ownBlock]); have hB2 : Below W0.heap.size W0 w2 := Below.grown (by first | exact hB1.drew | exact hB1 | exact (Below.refl _ _).drew | exact Below.refl _ _) hg2 (by first | exact hB1.size | exact Nat.le_refl _) (by simp [Value.ownBlock]); have qa2 := hk2.cells 0 _ rfl; have qb2 := hk2.cells 1 _ rfl; have ra2 := hr2.cells 0 _ rfl; have rb2 := hr2.cells 1 _ rfl; have rf2 := hr2.frozen; simp only [List.getElem_toArray, List.getElem_cons_zero, List.getElem_cons_succ] at qa2 qb2 ra2 rb2))
  all_goals go_wp2_with (with_reducible refine end_at ?_)
  all_goals
    obtain ⟨rfl, rfl⟩ := HL.out
    have h1 := hown1
    have h2 := hown2
    simp only [Nat.zero_add, List.nil_append] at h1 h2
    first | (have h1 := own_below h1 (below_of_grown hg2) (Nat.le_refl _)) | (have h2 := own_below h2 (below_of_grown hg1) (Nat.le_refl _))
    first | (have n1 := own_blk_ne h1 hr2 (by decide); have n2 := own_blk_ne h2 hr2 (by decide)) | (have n1 := own_blk_ne h1 hr1 (by decide); have n2 := own_blk_ne h2 hr1 (by decide))
    have hg := HG.out
    refine end_ret (v := .agg #[.slice A1 L.length c1, .slice A2 M.length c2]) (by first | (simp [results, Tryz.results85, go_sem, ra2, rb2]; done) | (simp [results, Tryz.results85, go_sem, ra1, rb1]; done)) rfl ⟨_, rfl, ⟨A1, c1, A2, c2, rfl, own_base (base := W0.heap.size) ?_ (by omega), own_base (base := W0.heap.size) ?_ (by omega)⟩, ?_⟩
    · repeat' (first | (with_reducible exact h1) | (with_reducible refine World.ownsRow.drew ?_) | (with_reducible refine own_far ?_ n1 _ _))
    · repeat' (first | (with_reducible exact h2) | (with_reducible refine World.ownsRow.drew ?_) | (with_reducible refine own_far ?_ n2 _ _))
    · rw [hg]
      have hc2 := HB0.out.trans (hB2.mono (by omega))
      have hc1 := HB0.out.trans (hB1.mono (by omega))
      first | exact ((hc2.setCell (by simp) _).setCell (by simp) _) | exact ((hc1.setCell (by simp) _).setCell (by simp) _)
end Go.Proofs.YtpkomloblhbkiaaGreatDoor
/- twin.Get. -/
namespace Go.Proofs.YtpkomloblhbkiaaGreatDoor
open Go.RowKit
theorem bodyF_cases (m : ByteArray) : (m = ⟨#[48]⟩ ∧ bodyF m = (1, true)) ∨ (m = ⟨#[49]⟩ ∧ bodyF m = (2, true)) ∨ (m ≠ ⟨#[48]⟩ ∧ m ≠ ⟨#[49]⟩ ∧ bodyF m = (0, false)) := by
  unfold bodyF
  by_cases h0 : m = ⟨#[48]⟩
  · exact .inl ⟨h0, by rw [if_pos h0]⟩
  · by_cases h1 : m = ⟨#[49]⟩
    · exact .inr (.inl ⟨h1, by rw [if_neg h0, if_pos h1]⟩)
    · exact .inr (.inr ⟨h0, h1, by rw [if_neg h0, if_neg h1]⟩)
def getF (p : Plat) (i : Int) : ByteArray × Bool × Int :=
  if (readF p i).2 = 0 then
    if (readF p i).1.toList = [] then (⟨#[]⟩, false, 0)
    else if (bodyF (readF p i).1).2 = true then ((readF p (i + (bodyF (readF p i).1).1)).1, decide ((readF p (i + (bodyF (readF p i).1).1)).2 = 0), (readF p (i + (bodyF (readF p i).1).1)).2)
    else (⟨#[]⟩, false, 140)
  else (⟨#[]⟩, false, (readF p i).2)
theorem read_size (p : Plat) (i : Int) : (readF p i).1.size ≤ 128 := by
  unfold readF
  by_cases hc : checkP p = true
  · rw [if_pos hc]
    by_cases hh : hasB p.sectors.length i = true
    · rw [if_pos hh]
      obtain ⟨_, _, _, hs, hx⟩ := (checkP_iff p).1 hc
      have hh' := (hasB_iff _ _).1 hh
      show (readOf p i.toNat).size ≤ 128
      unfold readOf
      cases h : lastP p.cache i.toNat with
      | some x =>
        have : x ∈ p.cache := by
          unfold lastP at h
          exact List.mem_reverse.1 (List.mem_of_find?_eq_some h)
        have := hx x this
        simp [putB, longB] at this
        exact this.1
      | none =>
        refine hs _ ?_
        rw [List.getD_eq_getElem?_getD, List.getElem?_eq_getElem (show i.toNat < p.sectors.length by omega)]
        exact List.getElem_mem _
    · rw [if_neg hh]; simp
  · rw [if_neg hc]; simp
theorem read_pos {p : Plat} {i : Int} (h : (readF p i).2 = 0) : checkP p = true ∧ 0 ≤ i ∧ i < p.sectors.length ∧ p.sectors.length ≤ 200 := by
  unfold readF at h
  by_cases hc : checkP p = true
  · rw [if_pos hc] at h
    by_cases hh : hasB p.sectors.length i = true
    · have := (hasB_iff _ _).1 hh
      exact ⟨hc, this.1, this.2, ((checkP_iff p).1 hc).2.1⟩
    · rw [if_neg hh] at h; simp at h
  · rw [if_neg hc] at h; simp at h
def OutG (w : World) (r : ByteArray × Bool × Int) (e : Ending) (w' : World) : Prop := e = .returned (.tuple #[.string r.1, .bool r.2.1, .int .i64 r.2.2]) ∧ Below w.heap.size w w'
theorem outG {w w' : World} {r : ByteArray × Bool × Int} {a : ByteArray} {b : Bool} {c : Int} {e : Ending} (h : r = (a, b, c)) (he : e = .returned (.tuple #[.string a, .bool b, .int .i64 c])) (hb : Below w.heap.size w w') : OutG w r e w' := by
  subst h; exact ⟨he, hb⟩
set_option maxRecDepth 100000 in
set_option maxHeartbeats 1000000 in
theorem get_any (p : Plat) (i : Int) (A A' : Option Addr) (n m c d : Nat) (w : World) (hP : PlatAt w w.heap.size A n A' m p) :
    Calls Tryz.prog 43 #[.agg #[.slice A n c, .slice A' m d], .int .i64 i] w (OutG w (getF p i)) := by
  have HP := hP.pre
  clear hP
  have hsz := read_size p i
  by_cases hr : (readF p i).2 = 0
  · have hpos := read_pos hr
    by_cases ht : (readF p i).1.toList = []
    · have HG : Hid (getF p i = (⟨#[]⟩, false, 0)) := by unfold Hid getF; rw [if_pos hr, if_pos ht]
      generalize hR : readF p i = R at *
      have HR := Lib.hid hR
      obtain ⟨t, et⟩ := R
      dsimp only at hr ht hsz
      subst hr
      clear hR hpos hsz
      go_enter Tryz.func43, Tryz.ntmps43
      go_wp2_with fail
      refine (read_any p i A A' n m c d _ (HP.step (by go_grown))).mono ?_
      rintro e w1 ⟨rfl, hb1⟩
      rw [HR.out]
      have hB1 : Below w.heap.size w w1 := Below.trans (by go_grown) (hb1.mono (by simp))
      clear hb1
      go_wp2_with fail
      go_ret3
      exact outG HG.out rfl hB1
    · have HG : Hid (getF p i = if (bodyF (readF p i).1).2 = true then ((readF p (i + (bodyF (readF p i).1).1)).1, decide ((readF p (i + (bodyF (readF p i).1).1)).2 = 0), (readF p (i + (bodyF (readF p i).1).1)).2) else (⟨#[]⟩, false, 140)) := by
        unfold Hid getF; rw [if_pos hr, if_neg ht]
      generalize hR : readF p i = R at *
      have HR := Lib.hid hR
      obtain ⟨t, et⟩ := R
      dsimp only at hr ht hsz HG
      subst hr
      have ht' : t.toList.isEmpty = false := by cases h : t.toList with | nil => exact absurd h ht | cons a b => rfl
      clear hR ht
      obtain ⟨_, h0, hn, h2⟩ := hpos
      have hi : i < 200 := by omega
      have hbo := bodyF_cases t
      generalize hbt : bodyF t = B at *
      have HBT := Lib.hid hbt
      obtain ⟨far, ok⟩ := B
      dsimp only at HG
      have hfar : (ok = true ∧ 1 ≤ far ∧ far ≤ 2) ∨ (ok = false ∧ far = 0) := by
        rcases hbo with ⟨_, h⟩ | ⟨_, h⟩ | ⟨_, _, h⟩ <;> (injection h with h1 h2; subst h1; subst h2; simp)
      clear hbt hbo hn h2
      rcases hfar with ⟨rfl, hf1, hf2⟩ | ⟨rfl, rfl⟩
      · rw [if_pos rfl] at HG
        generalize hR2 : readF p (i + far) = R2 at HG
        have HR2 := Lib.hid hR2
        clear hR2
        obtain ⟨s, es⟩ := R2
        dsimp only at HG
        go_enter Tryz.func43, Tryz.ntmps43
        go_wp2_with fail
        refine (read_any p i A A' n m c d _ (HP.step (by go_grown))).mono ?_
        rintro e w1 ⟨rfl, hb1⟩
        rw [HR.out]
        have hX := (Blk.new w _ _).below hb1 (by simp)
        have hB1 : Below w.heap.size w w1 := Below.trans (by go_grown) (hb1.mono (by simp))
        clear hb1
        go_wp2_with fail
        refine (body_any t _ (by simp only [maxLen]; omega)).mono ?_
        rintro e w2 ⟨rfl, hb2⟩
        rw [HBT.out]
        have hX2 := hX.below hb2 hX.lt
        have hB2 := hB1.trans (hb2.mono hB1.size)
        have x0 := hX2.cells 0 _ rfl
        have x1 := hX2.cells 1 _ rfl
        simp only [List.getElem_toArray, List.getElem_cons_zero, List.getElem_cons_succ] at x0 x1
        clear hb2 hX hB1
        go_wp2_with fail
        refine (read_any p (i + far) A A' n m c d _ (HP.step hB2)).mono ?_
        rintro e w3 ⟨rfl, hb3⟩
        rw [HR2.out]
        have hB3 := hB2.trans (hb3.mono hB2.size)
        clear hb3 hB2 x0 x1 hX2
        by_cases hes : es = 0
        · subst hes
          go_wp2_with fail
          go_ret3
          exact outG HG.out rfl hB3
        · have t1 : (es == 0) = false := by simpa using hes
          have HE := Lib.hid (show decide (es = 0) = false by simpa using hes)
          clear hes
          rw [HE.out] at HG
          go_wp2_with fail
          go_ret3
          exact outG HG.out rfl hB3
      · rw [if_neg (by decide)] at HG
        go_enter Tryz.func43, Tryz.ntmps43
        go_wp2_with fail
        refine (read_any p i A A' n m c d _ (HP.step (by go_grown))).mono ?_
        rintro e w1 ⟨rfl, hb1⟩
        rw [HR.out]
        have hB1 : Below w.heap.size w w1 := Below.trans (by go_grown) (hb1.mono (by simp))
        clear hb1
        go_wp2_with fail
        refine (body_any t _ (by simp only [maxLen]; omega)).mono ?_
        rintro e w2 ⟨rfl, hb2⟩
        rw [HBT.out]
        have hB2 := hB1.trans (hb2.mono hB1.size)
        clear hb2 hB1
        go_wp2_with fail
        go_ret3
        exact outG HG.out rfl hB2
  · have HG : Hid (getF p i = (⟨#[]⟩, false, (readF p i).2)) := by unfold Hid getF; rw [if_neg hr]
    generalize hR : readF p i = R at *
    have HR := Lib.hid hR
    obtain ⟨t, et⟩ := R
    dsimp only at hr hsz HG
    have t1 : (et != 0) = true := by simpa using hr
    clear hR hsz hr
    go_enter Tryz.func43, Tryz.ntmps43
    go_wp2_with fail
    refine (read_any p i A A' n m c d _ (HP.step (by go_grown))).mono ?_
    rintro e w1 ⟨rfl, hb1⟩
    rw [HR.out]
    have hB1 : Below w.heap.size w w1 := Below.trans (by go_grown) (hb1.mono (by simp))
    clear hb1
    go_wp2_with fail
    go_ret3
    exact outG HG.out rfl hB1
end Go.Proofs.YtpkomloblhbkiaaGreatDoor
/- twin.Put's deeds: the closures that write, and do. -/
namespace Go.Proofs.YtpkomloblhbkiaaGreatDoor
open Go.RowKit
set_option maxRecDepth 100000 in
theorem put1_any (i : Int) (s : ByteArray) (w : World) :
    Calls Tryz.prog 81 #[.int .i64 i, .string s] w fun e w' => e = .returned (.func (.func 82) #[] #[.pointer (some ⟨w.heap.size, 0, none⟩), .pointer (some ⟨w.heap.size + 1, 0, none⟩)]) ∧ (w.alloc (.cells #[.int .i64 i] 3)).alloc (.cells #[.string s] 9) = w' := by
  go_enter Tryz.func81, Tryz.ntmps81
  go_wp2
  go_ret
  exact ⟨rfl, rfl⟩
/-- what the closure does, its captured variables in blocks a, b -/
def WrOk (w : World) (a b : Nat) (i : Int) (s : ByteArray) : Prop := Hid (∀ W, Below w.heap.size w W → Blk W a 3 #[.int .i64 i] ∧ Blk W b 9 #[.string s])
theorem WrOk.on {w w1 : World} {a b : Nat} {i : Int} {s : ByteArray} (h : WrOk w a b i s) (hb : Below w.heap.size w w1) : WrOk w1 a b i s := fun W hW => h.out W (hb.trans (hW.mono hb.size))
theorem WrOk.mk_ {w : World} {a b : Nat} {i : Int} {s : ByteArray} (h1 : Blk w a 3 #[.int .i64 i]) (h2 : Blk w b 9 #[.string s]) : WrOk w a b i s := fun W hW => ⟨h1.below hW h1.lt, h2.below hW h2.lt⟩
set_option maxRecDepth 100000 in
set_option maxHeartbeats 400000 in
theorem put11_any (p : Plat) (i : Int) (s : ByteArray) (a b : Nat) (A A' : Option Addr) (n m c d : Nat) (w : World) (hP : PlatAt w w.heap.size A n A' m p) (hw : WrOk w a b i s) :
    Calls Tryz.prog 82 #[.agg #[.slice A n c, .slice A' m d], .pointer (some ⟨a, 0, none⟩), .pointer (some ⟨b, 0, none⟩)] w (Out2P w (writeF p i s)) := by
  have HP := hP.pre
  clear hP
  generalize hr : writeF p i s = r
  have HR := Lib.hid hr
  clear hr
  obtain ⟨q, er⟩ := r
  obtain ⟨ha, hb⟩ := hw.out w (Below.refl _ _)
  have a0 := ha.cells 0 _ rfl
  have b0 := hb.cells 0 _ rfl
  have hal := ha.lt
  have hbl := hb.lt
  simp only [List.getElem_toArray, List.getElem_cons_zero] at a0 b0
  clear ha hb hw
  go_enter Tryz.func82, Tryz.ntmps82
  go_wp2_with fail
  refine (write_any p i s A A' n m c d _ (HP.step (by go_grown))).mono ?_
  rintro e w1 ⟨v, rfl, ⟨A1, c1, A2, c2, rfl, hown1, hown2⟩, hb1⟩
  rw [HR.out] at hown1 hown2 ⊢
  have hB1 : Below w.heap.size w w1 := Below.trans (by go_grown) (hb1.mono (by simp; omega))
  have hr2 := (Blk.new_at (g := w.heap.size + 1) (by simp) _ _).below hb1 (by simp)
  have s0 := hr2.cells 0 _ rfl
  have s1 := hr2.cells 1 _ rfl
  have fs := hr2.frozen
  simp only [List.getElem_toArray, List.getElem_cons_zero, List.getElem_cons_succ, World.size_alloc] at s0 s1 hown1 hown2
  have HO := Lib.hid (And.intro hown1 hown2)
  clear hr2 hb1 hown1 hown2 a0 b0
  go_wp2_with (with_reducible refine end_at ?_)
  refine end_ret (v := .tuple #[.agg #[.slice A1 q.sectors.length c1, .slice A2 q.cache.length c2], .int .i64 er]) (by simp [results, Tryz.results82, go_sem, s0, s1]; try rfl) rfl ⟨_, rfl, ⟨A1, c1, A2, c2, rfl, own_base (base := w.heap.size + 1 + 1) ?_ (by omega), own_base (base := w.heap.size + 1 + 1) ?_ (by omega)⟩, by go_grown⟩
  · have h1 := HO.out.1
    repeat' (first | (with_reducible exact h1) | (with_reducible refine ownsRow_setCell_below ?_ (by first | (simp; done) | (simp; omega)) _))
  · have h1 := HO.out.2
    repeat' (first | (with_reducible exact h1) | (with_reducible refine ownsRow_setCell_below ?_ (by first | (simp; done) | (simp; omega)) _))
end Go.Proofs.YtpkomloblhbkiaaGreatDoor
