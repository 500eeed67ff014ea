/- member: Print. -/
import Derived.Test.YtbgohcedakpnbaaDoorMemE
import Derived.Test.YtbgohcedakpnbaaDoorBldB
import Derived.Test.YtbgohcedakpnbaaDoorBldK
import Derived.Test.YtbgohcedakpnbaaDoorKeep
import Derived.RangeFuncBound
import Derived.RangeFuncCalls
import Derived.RangeFuncNested
import Derived.Test.YtbgohcedakpnbaaDoorMemJ
import Derived.Defers
import Derived.Recover
import Derived.Laws.Pointers
set_option linter.unusedVariables false
set_option linter.unusedSimpArgs false
namespace Go.Proofs.YtbgohcedakpnbaaDoor
open Go.RowKit Go.Shelf
attribute [local go_sem] Oper.semAt_some
theorem pows_lt {A : World} (h : Pows A) : 2 < A.heap.size := by
  unfold Pows Lib.TabIs World.var? at h
  rw [show Tryd.prog.globalNamed "internal/strconv.uint64pow10" = some 2 by kernel_rfl] at h
  simp only [Option.bind_some] at h
  rcases Nat.lt_or_ge 2 A.heap.size with h' | h'
  · exact h'
  · rw [Array.getElem?_eq_none h'] at h
    simp at h
theorem pows_kept {A B : World} (h : Pows A) (hk : Kept 2 A B) : Pows B := by
  unfold Pows Lib.TabIs World.var? at h ⊢
  rw [show Tryd.prog.globalNamed "internal/strconv.uint64pow10" = some 2 by kernel_rfl] at h ⊢
  simp only [Option.bind_some] at h ⊢
  rw [show B.heap[2]? = A.heap[2]? from hk]
  exact h
/-- what the lines' iterator needs is kept -/
def KP (g b b' : Nat) (A B : World) : Prop := Kept 2 A B ∧ Kept b A B ∧ Kept b' A B ∧ Kept g A B ∧ A.heap.size ≤ B.heap.size
theorem KP.refl (g b b' : Nat) (A : World) : KP g b b' A A := ⟨Kept.refl _ _, Kept.refl _ _, Kept.refl _ _, Kept.refl _ _, Nat.le_refl _⟩
theorem KP.trans {g b b' : Nat} {A B C : World} (h : KP g b b' A B) (k : KP g b b' B C) : KP g b b' A C := ⟨h.1.trans k.1, h.2.1.trans k.2.1, h.2.2.1.trans k.2.2.1, h.2.2.2.1.trans k.2.2.2.1, Nat.le_trans h.2.2.2.2 k.2.2.2.2⟩
theorem KP.carry {g b off c b' off' d n : Nat} {r : Rec} {A B : World} (h : KP g b b' A B) (k : RecAt A g b off c b' off' d n r) : RecAt B g b off c b' off' d n r :=
  ⟨(show B.heap[g]? = _ from h.2.2.2.1).trans k.1, fun i x hx => (h.2.1.cell _).trans (k.2.1 i x hx), fun i x hx => (h.2.2.1.cell _).trans (k.2.2.1 i x hx), pows_kept k.2.2.2 h.1⟩
theorem RecAt.lts {g b off c b' off' d n : Nat} {r : Rec} {A : World} (k : RecAt A g b off c b' off' d n r) (hn : 1 ≤ r.names.length) (hp : 1 ≤ r.pledges.length) : g < A.heap.size ∧ b < A.heap.size ∧ b' < A.heap.size ∧ 2 < A.heap.size :=
  ⟨k.1.lt, World.block_lt_of_cell? A _ (k.2.1 0 _ (List.getElem?_eq_getElem hn)), World.block_lt_of_cell? A _ (k.2.2.1 0 _ (List.getElem?_eq_getElem hp)), pows_lt k.2.2.2⟩
theorem KP.below {B0 g b b' : Nat} {A B : World} (hb : Below B0 A B) (h1 : g < B0) (h2 : b < B0) (h3 : b' < B0) (h4 : 2 < B0) : KP g b b' A B :=
  ⟨Kept.below hb h4, Kept.below hb h2, Kept.below hb h3, Kept.below hb h1, hb.size⟩
theorem mprint_no (r : Rec) (A A' : Option Addr) (n c m d : Nat) (w : World) (hN : SlR encS 1 w w.heap.size A n r.names) (hP : SlR encS 1 w w.heap.size A' m r.pledges) (hsn : ∀ s ∈ r.names, s.size ≤ 140737488351232) (hsp : ∀ s ∈ r.pledges, s.size ≤ 140737488351232) (hck : checkB r = false) :
    Calls Tryd.prog 12 #[recV r A n c A' m d] w fun e w' => e = .returned (.tuple #[.string ⟨#[]⟩, .int .i64 180]) ∧ Below w.heap.size w w' := by
  have hB0 : Below w.heap.size w (w.alloc (.cells #[.int .i64 r.epoch, .int .i64 r.k, .slice A n c, .slice A' m d] 24)) := by go_grown
  have hC := mcheck_any r A A' n c m d (w.alloc (.cells #[.int .i64 r.epoch, .int .i64 r.k, .slice A n c, .slice A' m d] 24)) ((hN.below hB0).more hB0.size) ((hP.below hB0).more hB0.size) hsn hsp
  rw [hck] at hC
  have HC := Lib.hid hC
  clear hC hN hP hsn hsp hB0 hck
  unfold recV at HC ⊢
  go_enter Tryd.func12, Tryd.ntmps12
  go_wp2_with fail
  refine HC.out.mono ?_
  rintro e w1 ⟨rfl, hb1⟩
  go_wp2_with fail
  go_ret2
  exact ⟨rfl, Below.trans (by go_grown) (hb1.mono (by simp))⟩
/-- the rounds of Print: the lines that were written -/
def PX (w : World) (B : Nat) (cells : Array Value) (l : List UInt8) (W : World) : Prop := Below w.heap.size w W ∧ Bld B B l W ∧ Blk W (B + 1) 24 cells
theorem PX.grown {w W W' : World} {B : Nat} {cells : Array Value} {l : List UInt8} {row : Option Nat} (h : PX w B cells l W) (hg : W.grownBy W' row) (hr : ∀ r, row = some r → w.heap.size ≤ r ∧ ∃ o : Obj, W.heap[r]? = some o ∧ o.isCells = false) : PX w B cells l W' := by
  obtain ⟨h1, h2, h3⟩ := h
  have hr' := fun r e => (hr r e).2
  exact ⟨h1.grown hg h1.size (fun k e => by have := (hr k e).1; omega), bld_grown h2 hg hr', blk_kept h3 hg hr'⟩
theorem PX.write {w W W' : World} {B : Nat} {cells : Array Value} {l l' : List UInt8} (h : PX w B cells l W) (hB : w.heap.size ≤ B) (hb : Below B W W') (hk : BldKept B W W') (hl : Bld B B l' W') : PX w B cells l' W' :=
  ⟨h.1.trans (hb.mono hB), hl, hk.blk h.2.2 (by omega) (by decide)⟩
theorem PX.kp {w W W' : World} {B b b' : Nat} {cells : Array Value} {l l' : List UInt8} (h : PX w B cells l W) (h' : PX w B cells l' W') (hb : Below B W W') (h2 : b < B) (h3 : b' < B) (h4 : 2 < B) : KP (B + 1) b b' W W' :=
  ⟨Kept.below hb h4, Kept.below hb h2, Kept.below hb h3, (show W'.heap[B + 1]? = W.heap[B + 1]? by rw [show W'.heap[B + 1]? = _ from h'.2.2, show W.heap[B + 1]? = _ from h.2.2]), hb.size⟩
set_option maxHeartbeats 4000000 in
set_option maxRecDepth 100000 in
theorem mprint_in (e k : Nat) (names pledges : List ByteArray) (b off c b' off' d n : Nat) (w : World) (hck : checkB ⟨(e : Int), (k : Int), names, pledges⟩ = true)
    (hN : SlR encS 1 w w.heap.size (some ⟨b, off, none⟩) n names) (hP : SlR encS 1 w w.heap.size (some ⟨b', off', none⟩) n pledges) (hG : Pows w) :
    Calls Tryd.prog 12 #[.agg #[.int .i64 e, .int .i64 k, .slice (some ⟨b, off, none⟩) n c, .slice (some ⟨b', off', none⟩) n d]] w fun e' w' => e' = .returned (.tuple #[.string (printB ⟨e, k, names, pledges⟩), .int .i64 0]) ∧ Below w.heap.size w w' := by
  obtain ⟨⟨he1, he2, hn1, hn16, hlp, hk1, hk2⟩, hpl⟩ := (checkB_iff _).1 hck
  simp only at he1 he2 hn1 hn16 hlp hk1 hk2
  have hln := hN.1
  have hsn : ∀ s ∈ names, s.size ≤ 140737488351232 := fun s hs => by
    obtain ⟨i, hi⟩ := List.getElem?_of_mem hs
    have h := hpl i (List.getElem?_eq_some_iff.1 hi).1
    unfold placeB at h
    simp only [mgetD_at hi, nameB, Bool.and_eq_true, decide_eq_true_eq] at h
    omega
  have hsp : ∀ s ∈ pledges, s.size ≤ 140737488351232 := fun s hs => by
    obtain ⟨i, hi⟩ := List.getElem?_of_mem hs
    have h := hpl i (by show i < names.length; rw [← hlp]; exact (List.getElem?_eq_some_iff.1 hi).1)
    unfold placeB at h
    simp only [mgetD_at hi, Bool.and_eq_true, decide_eq_true_eq] at h
    omega
  have hB0 : Below w.heap.size w (w.alloc (.cells #[.int .i64 e, .int .i64 k, .slice (some ⟨b, off, none⟩) n c, .slice (some ⟨b', off', none⟩) n d] 24)) := by go_grown
  have hC := mcheck_any ⟨e, k, names, pledges⟩ (some ⟨b, off, none⟩) (some ⟨b', off', none⟩) n c n d (w.alloc (.cells #[.int .i64 e, .int .i64 k, .slice (some ⟨b, off, none⟩) n c, .slice (some ⟨b', off', none⟩) n d] 24)) ((hN.below hB0).more hB0.size) ((hP.below hB0).more hB0.size) hsn hsp
  rw [hck] at hC
  unfold recV at hC
  have HC := Lib.hid hC
  have HCK := Lib.hid hck
  obtain ⟨_, off0, _, hA1, _, hcn⟩ := mrow_at hN (show 0 < n by omega)
  obtain ⟨_, off0', _, hA2, _, hcp⟩ := mrow_at hP (show 0 < n by omega)
  injection hA1 with hA1
  injection hA2 with hA2
  injection hA1 with h1 h2 h3
  injection hA2 with h4 h5 h6
  subst h1 h2 h4 h5
  have HCN := Lib.hid (And.intro hcn hcp)
  have HG := Lib.hid hG
  have HLn := Lib.hid (And.intro hln hlp)
  have hbl : b < w.heap.size ∧ b' < w.heap.size := ⟨World.block_lt_of_cell? w _ (hcn w (Below.refl _ _) 0 _ (List.getElem?_eq_getElem (by omega))), World.block_lt_of_cell? w _ (hcp w (Below.refl _ _) 0 _ (List.getElem?_eq_getElem (by omega)))⟩
  have hpw := pows_lt hG
  clear hC hck hN hP hsn hsp hB0 hcn hcp hG hpl he1 he2 hk1 hk2 hln hlp h3 h6
  refine (callsIn_wide (n := 10)).1 ?_
  refine callsIn_of_wp_marks Tryd.func12 rfl trivial ?_ rfl
  simp only [Tryd.ntmps12, List.size_toArray, List.length_cons, List.length_nil, Nat.reduceAdd, Nat.reduceSub, Array.replicate_succ, Array.replicate_zero, List.push_toArray, List.append_toArray, List.nil_append, List.cons_append]
  gi_wp2_with fail
  refine ⟨trivial, ?_⟩
  gi_at_call 19
  refine (callsIn_wide.2 HC.out).mono ?_
  rintro e' w1 ⟨rfl, hb1⟩
  have hB1 : Below w.heap.size w w1 := Below.trans (by go_grown) (hb1.mono (by simp))
  have hbx : Blk w1 w.heap.size 24 #[.int .i64 e, .int .i64 k, .slice (some ⟨b, off, none⟩) n c, .slice (some ⟨b', off', none⟩) n d] := (Blk.new w _ _).below hb1 (by simp)
  have hlx := hbx.lt
  have q0 := hbx.cells 0 _ rfl
  have q1 := hbx.cells 1 _ rfl
  have q2 := hbx.cells 2 _ rfl
  have q3 := hbx.cells 3 _ rfl
  simp only [List.getElem_toArray, List.getElem_cons_zero, List.getElem_cons_succ] at q0 q1 q2 q3
  clear hb1 hbx HC
  gi_wp2_with fail
  refine ⟨trivial, ?_⟩
  gi_at_call 30
  refine (mprinted_in Fence.wide _ trivial rfl _ _ _ _ _).mono ?_
  rintro e' w3 ⟨rfl, rfl⟩
  clear q0 q1 q2 q3
  gi_wp2_with fail
  have hz1 := hB1.size
  have hEX : PX w w1.heap.size #[.int .i64 e, .int .i64 k, .slice (some ⟨b, off, none⟩) n c, .slice (some ⟨b', off', none⟩) n d] (catT []) ((w1.alloc (.cells #[.pointer none, .slice none 0 0] 56)).alloc (.cells #[.int .i64 e, .int .i64 k, .slice (some ⟨b, off, none⟩) n c, .slice (some ⟨b', off', none⟩) n d] 24)) := by
    refine ⟨by go_grown, ?_, Blk.new_at (g := w1.heap.size + 1) (by simp) _ _⟩
    exact (bld_new w1).alloc _
  have hRA : RecAt ((w1.alloc (.cells #[.pointer none, .slice none 0 0] 56)).alloc (.cells #[.int .i64 e, .int .i64 k, .slice (some ⟨b, off, none⟩) n c, .slice (some ⟨b', off', none⟩) n d] 24)) (w1.heap.size + 1) b off c b' off' d n ⟨e, k, names, pledges⟩ :=
    ⟨hEX.2.2, fun i x hx => HCN.out.1 _ hEX.1 i x hx, fun i x hx => HCN.out.2 _ hEX.1 i x hx, HG.out.below hEX.1⟩
  generalize hW0 : ((w1.alloc (.cells #[.pointer none, .slice none 0 0] 56)).alloc (.cells #[.int .i64 e, .int .i64 k, .slice (some ⟨b, off, none⟩) n c, .slice (some ⟨b', off', none⟩) n d] 24)) = W0 at hEX hRA ⊢
  have hsz0 : W0.heap.size = w1.heap.size + 1 + 1 := by rw [← hW0]; simp
  have HEX := Lib.hid hEX
  have HRA := Lib.hid hRA
  clear hW0 hEX hRA
  refine wpIn_rangeFunc_ownH rfl (by omega) (gf := 52) (lb := #[.pointer (some ⟨w1.heap.size + 1, 0, none⟩)]) rfl trivial (enters_of Tryd.func52 (by kernel_rfl) rfl)
    (encs := fun x : { x : ByteArray // x.size ≤ 100 } => #[.string x.1]) (Kp := KP (w1.heap.size + 1) b b') (S := fun xs => xs.map Subtype.val = linesL ⟨e, k, names, pledges⟩) (Sp := fun pre => pre.map Subtype.val <+: linesL ⟨e, k, names, pledges⟩) (N := n + 1) (w0 := W0)
    (fun l J Jx W hW hJ hJx hY h0 => ?seq)
    KP.trans (fun W l o o' hl h1 h2 h3 => KP.below (belowK_b (n₀ := W0.heap.size) (w := W0) (Nat.le_refl _) W l o o' hl h1 h2 h3) (by omega) (by omega) (by omega) (by omega)) (Below.refl _ _) (fun _ => rfl)
    (fun pre W => PX w w1.heap.size #[.int .i64 e, .int .i64 k, .slice (some ⟨b, off, none⟩) n c, .slice (some ⟨b', off', none⟩) n d] (catT (pre.map Subtype.val)) W ∧ (catT (pre.map Subtype.val)).length ≤ 101 * pre.length ∧ W0.heap.size ≤ W.heap.size)
    (fun _ _ _ => False)
    (fun st W W' row hs hg hr => ⟨hs.1.grown hg (fun r e => ⟨by have := (hr r e).1; omega, (hr r e).2⟩), hs.2.1, Nat.le_trans hs.2.2 hg.size⟩)
    (fun _ _ _ _ _ h _ _ => h.elim)
    ⟨HEX.out, by simp [catT], Nat.le_refl _⟩
    (fun x a' W => a' = { tmps := #[.agg #[.int .i64 e, .int .i64 k, .slice (some ⟨b, off, none⟩) n c, .slice (some ⟨b', off', none⟩) n d], .pointer (some ⟨w.heap.size, 0, none⟩), .string ⟨#[]⟩, .int .i64 0, .pointer (some ⟨w1.heap.size, 0, none⟩), .string x.1, .agg #[.int .i64 e, .int .i64 k, .slice (some ⟨b, off, none⟩) n c, .slice (some ⟨b', off', none⟩) n d], .bool true, .bool false, .agg #[.int .i64 e, .int .i64 k, .slice (some ⟨b, off, none⟩) n c, .slice (some ⟨b', off', none⟩) n d], .func (.func 52) #[] #[.pointer (some ⟨w1.heap.size + 1, 0, none⟩)], .string x.1, undef, undef, undef, undef], defers := [] })
    (fun _ _ _ _ _ _ h _ _ => h)
    ?assign ?body ?done ?stop
  case seq =>
    refine (mprinted1_in _ (by omega) l (w1.heap.size + 1) b off c b' off' d n e k names pledges HCK.out HLn.out.1 (fun pre W => ∃ xs : List { x : ByteArray // x.size ≤ 100 }, xs.map Subtype.val = pre ∧ J xs W) (fun pre W => ∃ xs : List { x : ByteArray // x.size ≤ 100 }, xs.map Subtype.val = pre ∧ Jx xs W) (KP (w1.heap.size + 1) b b')
      (KP.refl _ _ _) (fun _ _ _ => KP.trans) (fun A B h k2 => KP.carry h k2) (fun A B k2 hb => ?kb) (fun pre A B hs hb => ?jb) (fun pre x W hs hl hx => ?yieldc) W (HRA.out.on hW) ⟨[], rfl, h0⟩).mono ?_
    case kb =>
      obtain ⟨m1, m2, m3, m4⟩ := k2.lts (by show 1 ≤ names.length; exact hn1) (by show 1 ≤ pledges.length; rw [HLn.out.2]; exact hn1)
      exact KP.below hb m1 m2 m3 m4
    case jb =>
      obtain ⟨xs, hx, hj⟩ := hs
      exact ⟨xs, hx, hJ xs A B none hj ⟨hb.os, hb.tape, hb.output, hb.size, fun k hk _ => hb.block k hk⟩ (fun r e => by cases e)⟩
    case yieldc =>
      obtain ⟨xs, rfl, hj⟩ := hs
      obtain ⟨fn, tmps, assign, body, hy, hR⟩ := hY xs ⟨x, hx⟩ W hj (by simpa using hl)
      refine ⟨fn, tmps, assign, body, hy, hR.mono ?_⟩
      rintro e' W' (⟨rfl, hj2, hk2⟩ | ⟨rfl, hx2⟩)
      · exact .inl ⟨rfl, ⟨_, by simp, hj2⟩, hk2⟩
      · exact .inr ⟨rfl, ⟨_, by simp, hx2⟩⟩
    rintro e' W' ⟨hv, h⟩
    refine ⟨hv, ?_⟩
    rcases h with ⟨ys, rfl, xs, hxs, hj⟩ | ⟨pre, hpre, xs, rfl, hjx⟩
    · exact .inl ⟨xs, hxs, hj⟩
    · exact .inr ⟨xs, hpre, hjx⟩
  case assign =>
    rintro l pre x W K hI hK
    gi_wp2
    exact hK _ _ (KeepsFrom.refl _ _) (KP.refl _ _ _ W) hI rfl
  case body =>
    rintro l pre x a' W hl _ ⟨hE, hlen, hzW⟩ rfl hlt
    obtain ⟨x, hx100⟩ := x
    obtain ⟨t, ht⟩ : ∃ t, catT (pre.map Subtype.val) = t := ⟨_, rfl⟩
    rw [ht] at hE hlen
    have HT : Hid (catT ((pre ++ [(⟨x, hx100⟩ : { x : ByteArray // x.size ≤ 100 })]).map Subtype.val) = t ++ x.data.toList ++ [10]) := Lib.hid (by rw [List.map_append, List.map_cons, List.map_nil, catT_snoc, ht])
    have hxl : x.data.toList.length = x.size := by simp
    have HE := Lib.hid hE
    have hse := hE.2.2.lt
    have hplen : pre.length < 20 := by have := HLn.out.1; omega
    have hw := bld_write w1.heap.size w1.heap.size t x W hE.2.1 (by omega) (by omega)
    have HW := Lib.hid hw
    clear hE ht hw
    gi_wp2_with fail
    refine ⟨trivial, ?_⟩
    gi_at_call 31
    refine (CallsIn.inRound l (callsIn_wide.2 HW.out)).mono ?_
    rintro e' W1 ⟨rfl, hl1, hb1, hk1⟩
    have hE1 := HE.out.write (by omega) hb1 hk1 hl1
    have hko1 := BldKept.others hk1 HE.out.2.1 hb1.size
    have hw2 : Calls Tryd.prog 32 #[.pointer (some ⟨w1.heap.size, 0, none⟩), .int .u8 10] W1 fun e w' => e = .returned .nilIface ∧ Bld w1.heap.size w1.heap.size (t ++ x.data.toList ++ [10]) w' ∧ Below w1.heap.size W1 w' ∧ BldKept w1.heap.size W1 w' :=
      bld_byte w1.heap.size w1.heap.size (t ++ x.data.toList) 10 W1 hE1.2.1 (by rw [List.length_append]; omega) (by have := hb1.size; omega)
    have HW2 := Lib.hid hw2
    have HE1 := Lib.hid (And.intro hE1 (And.intro hko1 hb1))
    clear hl1 hb1 hk1 hE1 hko1 hw2
    gi_wp2_with fail
    refine ⟨trivial, ?_⟩
    gi_at_call 32
    refine (CallsIn.inRound l (callsIn_wide.2 HW2.out)).mono ?_
    rintro e' W2 ⟨rfl, hl2, hb2, hk2⟩
    have hE2 := HE1.out.1.write (by omega) hb2 hk2 hl2
    have hko2 := BldKept.others hk2 HE1.out.1.2.1 hb2.size
    have HF := Lib.hid (And.intro hE2 (And.intro (HE1.out.2.1.trans hko2) (And.intro (PX.kp (b := b) (b' := b') HE.out hE2 (HE1.out.2.2.trans (hb2.mono (Nat.le_refl _))) (by omega) (by omega) (by omega)) (Nat.le_trans HE1.out.2.2.size hb2.size))))
    clear hl2 hb2 hk2 hE2 hko2
    gi_wp2_with fail
    refine ⟨HF.out.2.1.from _, HF.out.2.2.1, ?_, ?_, Nat.le_trans hzW HF.out.2.2.2⟩
    · rw [HT.out]
      exact HF.out.1
    · rw [HT.out]
      simp only [List.length_append, List.length_cons, List.length_nil]
      omega
  case done =>
    rintro D ys W hD hys ⟨hE, hlen, hzW⟩ hK
    rw [hys] at hE
    have hse := hE.2.2.lt
    have hs := bld_string w1.heap.size w1.heap.size (catT (linesL ⟨e, k, names, pledges⟩)) W hE.2.1 (by omega)
    have HS1 := Lib.hid hs
    have HE := Lib.hid hE
    have HK0 := Lib.hid hK
    clear hs hE hK hys hlen
    gi_wp2_with fail
    refine ⟨trivial, ?_⟩
    gi_at_call 33
    refine (callsIn_wide.2 HS1.out).mono ?_
    rintro e' w2 ⟨rfl, hl1, hb1, hk1⟩
    have hK1 : w2.heap[D]? = some (.deferred (some [])) := hk1 D _ HK0.out (by
      intro e
      cases e
      have hk := HK0.out
      rcases HE.out.2.1 with ⟨_, v, hx, _⟩ | ⟨_, v, hx, _⟩ <;>
      · rw [hx] at hk; cases hk) (fun c fz e => by cases e)
    have hB2 := HE.out.1.trans (hb1.mono (by omega))
    clear hb1 hk1 hl1
    gi_wp2_with fail
    refine ⟨by simp, .inl ⟨_, _, rfl, run_takeDeferred hK1, ?_⟩⟩
    exact ⟨_, results_tmp2 rfl _ _ _, by simp [printB], hB2.trans (belowK_b (n₀ := w.heap.size) (w := W0) (by omega) w2 D _ _ hD hK1 rfl rfl)⟩
  case stop =>
    rintro D cd pre W hD hpre h hK0
    exact h.elim
end Go.Proofs.YtbgohcedakpnbaaDoor
/- member: Parse (where the text is a right record's). -/
namespace Go.Proofs.YtbgohcedakpnbaaDoor
open Go.RowKit Go.Shelf
/-- the deferred closure of Parse, where nothing has panicked -/
theorem pcatch_idle (p q : Addr) (w : World) :
    CallsD Tryd.prog 36 #[.pointer (some p), .pointer (some q)] .returning w fun e u' w' => e = .returned (.tuple #[]) ∧ u' = .returning ∧ w' = w := by
  refine callsD_of_wpS Tryd.func36 rfl fun c₀ cs hu => ?_
  apply wpS_seq
  apply wpS_region
  simp [wpOpsS, go_sem, recoverD, hu, Tryd.ntmps36, Exit.thenS]
  refine wpS_cond (t := false) (by simp [Act.eval, Array.replicate]) ?_
  simp only [Bool.false_eq_true, if_false]
  refine wpS_of_wp (wp_skip ?_)
  cases c₀
  simp_all [bodyPostS, results, Tryd.results36]
set_option maxHeartbeats 4000000 in
set_option maxRecDepth 100000 in
theorem mparse_good (e k : Nat) (names pledges : List ByteArray) (s : ByteArray) (w : World) (hck : checkB ⟨(e : Int), (k : Int), names, pledges⟩ = true) (hs : printB ⟨e, k, names, pledges⟩ = s) (hG : Pows w) :
    Calls Tryd.prog 14 #[.string s] w fun e' w' => ∃ (A A' : Option Addr) (c d : Nat), e' = .returned (.tuple #[.agg #[.int .i64 e, .int .i64 k, .slice A names.length c, .slice A' names.length d], .int .i64 0]) ∧ Hid (SRow w' w.heap.size (.slice A names.length c) names) ∧ Hid (SRow w' w.heap.size (.slice A' names.length d) pledges) ∧ Below w.heap.size w w' := by
  have HR := Lib.hid (fun W => mread_good e k names pledges s W hck hs)
  have hmf : ∀ (fn : Fn) (first cap : Array Value) (w : World), (Instr.makeFunc fn first cap).run Tryd.prog w = .ok (.func fn first cap) w := fun _ _ _ _ => rfl
  have HCK := Lib.hid hck
  have HS := Lib.hid hs
  have HG := Lib.hid hG
  clear hck hs hG
  go_enter_defers Tryd.func14, Tryd.ntmps14
  go_wp2_with fail
  refine (HR.out _).mono ?_
  rintro e' w1 ⟨A, A', c, d, rfl, hn, hp, hb1⟩
  have hsz1 : w.heap.size + 1 + 1 ≤ w1.heap.size := by have := hb1.size; simpa using this
  have hb0 : Below w.heap.size w w1 := Below.trans (by go_grown) (hb1.mono (by simp; omega))
  have hx1 : Blk w1 w.heap.size 24 #[.int .i64 0, .int .i64 0, .slice none 0 0, .slice none 0 0] := ((Blk.new w _ _).alloc _).below hb1 (by simp; omega)
  have hy1 : Blk w1 (w.heap.size + 1) 27 #[.int .i64 0] := (Blk.new_at (g := w.heap.size + 1) (by simp) _ _).below hb1 (by simp; done)
  have hn1 : SRow w1 (w.heap.size + 1 + 1) (.slice A names.length c) names := by simpa using hn.out
  have hp1 : SRow w1 (w.heap.size + 1 + 1) (.slice A' names.length d) pledges := by simpa using hp.out
  have hs2 := ((((hx1.set_ 0 (.int .i64 e)).set_ 1 (.int .i64 k)).set_ 2 (.slice A names.length c)).set_ 3 (.slice A' names.length d))
  simp only [List.setIfInBounds_toArray, List.set_cons_zero, List.set_cons_succ] at hs2
  have hn2 := orow_far (orow_far (orow_far (orow_far hn1 hx1 (by decide) 0 (.int .i64 e)) (hx1.set_ 0 _) (by decide) 1 (.int .i64 k)) ((hx1.set_ 0 _).set_ 1 _) (by decide) 2 (.slice A names.length c)) (((hx1.set_ 0 _).set_ 1 _).set_ 2 _) (by decide) 3 (.slice A' names.length d)
  have hp2 := orow_far (orow_far (orow_far (orow_far hp1 hx1 (by decide) 0 (.int .i64 e)) (hx1.set_ 0 _) (by decide) 1 (.int .i64 k)) ((hx1.set_ 0 _).set_ 1 _) (by decide) 2 (.slice A names.length c)) (((hx1.set_ 0 _).set_ 1 _).set_ 2 _) (by decide) 3 (.slice A' names.length d)
  have hy2 : Blk ((((w1.setCell ⟨w.heap.size, 0, none⟩ (.int .i64 e)).setCell ⟨w.heap.size, 1, none⟩ (.int .i64 k)).setCell ⟨w.heap.size, 2, none⟩ (.slice A names.length c)).setCell ⟨w.heap.size, 3, none⟩ (.slice A' names.length d)) (w.heap.size + 1) 27 #[.int .i64 0] :=
    (((hy1.far (by show _ ≠ _; simp) _).far (by show _ ≠ _; simp) _).far (by show _ ≠ _; simp) _).far (by show _ ≠ _; simp) _
  have hB2 : Below w.heap.size w ((((w1.setCell ⟨w.heap.size, 0, none⟩ (.int .i64 e)).setCell ⟨w.heap.size, 1, none⟩ (.int .i64 k)).setCell ⟨w.heap.size, 2, none⟩ (.slice A names.length c)).setCell ⟨w.heap.size, 3, none⟩ (.slice A' names.length d)) :=
    (((hb0.setCell (Nat.le_refl _) _).setCell (Nat.le_refl _) _).setCell (Nat.le_refl _) _).setCell (Nat.le_refl _) _
  have hsz2 : w.heap.size + 1 + 1 ≤ ((((w1.setCell ⟨w.heap.size, 0, none⟩ (.int .i64 e)).setCell ⟨w.heap.size, 1, none⟩ (.int .i64 k)).setCell ⟨w.heap.size, 2, none⟩ (.slice A names.length c)).setCell ⟨w.heap.size, 3, none⟩ (.slice A' names.length d)).heap.size := by simpa using hsz1
  have f0 := hx1.frozen
  have d0 := hx1.cells 0 _ rfl
  have d1 := hx1.cells 1 _ rfl
  have d2 := hx1.cells 2 _ rfl
  have d3 := hx1.cells 3 _ rfl
  simp only [List.getElem_toArray, List.getElem_cons_zero, List.getElem_cons_succ] at d0 d1 d2 d3
  have hl1 := hx1.lt
  have HX := Lib.hid (And.intro hs2 (And.intro hn2 (And.intro hp2 (And.intro hy2 (And.intro hB2 hsz2)))))
  clear hn hp hb1 hb0 hx1 hy1 hn1 hp1 hs2 hn2 hp2 hy2 hB2 hsz2
  go_wp2_with fail
  obtain ⟨hs2, hn2, hp2, hy2, hB2, hsz2⟩ := HX.out
  generalize (((w1.setCell ⟨w.heap.size, 0, none⟩ (.int .i64 e)).setCell ⟨w.heap.size, 1, none⟩ (.int .i64 k)).setCell ⟨w.heap.size, 2, none⟩ (.slice A names.length c)).setCell ⟨w.heap.size, 3, none⟩ (.slice A' names.length d) = W2 at *
  have hsN := srow_slr hn2 rfl
  have hsP := srow_slr hp2 (show pledges.length = names.length from ?hlp)
  case hlp =>
    obtain ⟨⟨_, _, _, _, h, _, _⟩, _⟩ := (checkB_iff _).1 HCK.out
    exact h
  have hn1 : 1 ≤ names.length := by
    obtain ⟨⟨_, _, h, _⟩, _⟩ := (checkB_iff _).1 HCK.out
    exact h
  obtain ⟨b, off, _, hA, _, _⟩ := mrow_at hsN (show 0 < names.length by omega)
  obtain ⟨b', off', _, hA', _, _⟩ := mrow_at hsP (show 0 < names.length by omega)
  subst hA hA'
  have hpr := mprint_in e k names pledges b off c b' off' d names.length W2 HCK.out hsN hsP (HG.out.below hB2)
  rw [HS.out] at hpr
  refine hpr.mono ?_
  rintro e' w3 ⟨rfl, hb3⟩
  have hs3 := hs2.below hb3 (by omega)
  have hy3 := hy2.below hb3 (by omega)
  have hn3 := orow_below hn2 hb3 (Nat.le_refl _)
  have hp3 := orow_below hp2 hb3 (Nat.le_refl _)
  have hB3 := hB2.trans (hb3.mono (by omega))
  have f0 := hs3.frozen
  have f1 := hy3.frozen
  have d0 := hs3.cells 0 _ rfl
  have d1 := hs3.cells 1 _ rfl
  have d2 := hs3.cells 2 _ rfl
  have d3 := hs3.cells 3 _ rfl
  have d4 := hy3.cells 0 _ rfl
  simp only [List.getElem_toArray, List.getElem_cons_zero, List.getElem_cons_succ] at d0 d1 d2 d3 d4
  have hl3 := hs3.lt
  have hl4 := hy3.lt
  have HX3 := Lib.hid (And.intro hs3 (And.intro hn3 (And.intro hp3 (And.intro hy3 hB3))))
  clear HX hs2 hn2 hp2 hy2 hB2 hs3 hn3 hp3 hy3 hB3 hb3 hsN hsP hpr
  go_wp2_with fail
  refine (must_true _).mono ?_
  rintro e' w4 ⟨rfl, rfl⟩
  go_wp2_with fail
  obtain ⟨hs3, hn3, hp3, hy3, hB3⟩ := HX3.out
  have hs5 := (((((hs3.set_ 0 (.int .i64 e)).set_ 1 (.int .i64 k)).set_ 2 (.slice (some ⟨b, off, none⟩) names.length c)).set_ 3 (.slice (some ⟨b', off', none⟩) names.length d))).far (p := ⟨w.heap.size + 1, 0, none⟩) (by show _ ≠ _; simp) (.int .i64 0)
  have hn4 := orow_far (orow_far (orow_far (orow_far hn3 hs3 (by decide) 0 (.int .i64 e)) (hs3.set_ 0 _) (by decide) 1 (.int .i64 k)) ((hs3.set_ 0 _).set_ 1 _) (by decide) 2 (.slice (some ⟨b, off, none⟩) names.length c)) (((hs3.set_ 0 _).set_ 1 _).set_ 2 _) (by decide) 3 (.slice (some ⟨b', off', none⟩) names.length d)
  have hp4 := orow_far (orow_far (orow_far (orow_far hp3 hs3 (by decide) 0 (.int .i64 e)) (hs3.set_ 0 _) (by decide) 1 (.int .i64 k)) ((hs3.set_ 0 _).set_ 1 _) (by decide) 2 (.slice (some ⟨b, off, none⟩) names.length c)) (((hs3.set_ 0 _).set_ 1 _).set_ 2 _) (by decide) 3 (.slice (some ⟨b', off', none⟩) names.length d)
  have hy4 := ((((hy3.far (p := ⟨w.heap.size, 0, none⟩) (by show _ ≠ _; simp) (.int .i64 e)).far (p := ⟨w.heap.size, 1, none⟩) (by show _ ≠ _; simp) (.int .i64 k)).far (p := ⟨w.heap.size, 2, none⟩) (by show _ ≠ _; simp) (.slice (some ⟨b, off, none⟩) names.length c)).far (p := ⟨w.heap.size, 3, none⟩) (by show _ ≠ _; simp) (.slice (some ⟨b', off', none⟩) names.length d))
  have hn5 := orow_far hn4 hy4 (by decide) 0 (.int .i64 0)
  have hp5 := orow_far hp4 hy4 (by decide) 0 (.int .i64 0)
  have hy5 := hy4.set_ 0 (.int .i64 0)
  have hB5 := ((((hB3.setCell (p := ⟨w.heap.size, 0, none⟩) (Nat.le_refl _) (.int .i64 e)).setCell (p := ⟨w.heap.size, 1, none⟩) (Nat.le_refl _) (.int .i64 k)).setCell (p := ⟨w.heap.size, 2, none⟩) (Nat.le_refl _) (.slice (some ⟨b, off, none⟩) names.length c)).setCell (p := ⟨w.heap.size, 3, none⟩) (Nat.le_refl _) (.slice (some ⟨b', off', none⟩) names.length d)).setCell (p := ⟨w.heap.size + 1, 0, none⟩) (by simp) (.int .i64 0)
  simp only [List.setIfInBounds_toArray, List.set_cons_zero, List.set_cons_succ] at hs5 hy5
  generalize ((((w3.setCell ⟨w.heap.size, 0, none⟩ (.int .i64 e)).setCell ⟨w.heap.size, 1, none⟩ (.int .i64 k)).setCell ⟨w.heap.size, 2, none⟩ (.slice (some ⟨b, off, none⟩) names.length c)).setCell ⟨w.heap.size, 3, none⟩ (.slice (some ⟨b', off', none⟩) names.length d)).setCell ⟨w.heap.size + 1, 0, none⟩ (.int .i64 0) = W5 at *
  refine leaves_cons (f := 36) (args := #[.pointer (some ⟨w.heap.size, 0, none⟩), .pointer (some ⟨w.heap.size + 1, 0, none⟩)]) (by simp) (by simp [go_sem]) ?_
  refine (pcatch_idle ⟨w.heap.size, 0, none⟩ ⟨w.heap.size + 1, 0, none⟩ W5).mono ?_
  rintro e' u' w'' ⟨rfl, rfl, rfl⟩
  have e0 := hs5.cells 0 _ rfl
  have e1 := hs5.cells 1 _ rfl
  have e2 := hs5.cells 2 _ rfl
  have e3 := hs5.cells 3 _ rfl
  simp only [List.getElem_toArray, List.getElem_cons_zero, List.getElem_cons_succ] at e0 e1 e2 e3
  have c4 := hy5.cells 0 _ rfl
  simp only [List.getElem_toArray, List.getElem_cons_zero] at c4
  refine ⟨.tuple #[.agg #[.int .i64 e, .int .i64 k, .slice (some ⟨b, off, none⟩) names.length c, .slice (some ⟨b', off', none⟩) names.length d], .int .i64 0], by simp [results, Tryd.results14, asAddr, go_sem, e0, e1, e2, e3, c4], some ⟨b, off, none⟩, some ⟨b', off', none⟩, c, d, rfl, Lib.hid ?_, Lib.hid ?_, hB5⟩
  · exact orow_base hn5 (by omega)
  · exact orow_base hp5 (by omega)
end Go.Proofs.YtbgohcedakpnbaaDoor
