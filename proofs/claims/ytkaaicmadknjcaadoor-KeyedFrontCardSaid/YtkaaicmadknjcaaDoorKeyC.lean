/- keyed: Expand, Derive. -/
import Derived.Test.YtkaaicmadknjcaaDoorKeyB
import Derived.Test.YtkaaicmadknjcaaDoorRowIn
set_option linter.unusedVariables false
namespace Go.Proofs.YtkaaicmadknjcaaDoor
open Go.RowKit Go.Shelf
attribute [local go_sem] Oper.semAt_some
theorem bld_grown {B b : Nat} {l : List UInt8} {W W' : World} {row : Option Nat} (h : Bld B b l W) (hg : W.grownBy W' row) (hr : ∀ r, row = some r → ∃ o : Obj, W.heap[r]? = some o ∧ o.isCells = false) : Bld B b l W' := by
  have key : ∀ (k : Nat) (cs : Array Value) (t : TypeId) (fr : Nat × Nat), W.heap[k]? = some (.cells cs t fr) → W'.heap[k]? = some (.cells cs t fr) := fun k cs t fr hk =>
    (hg.block k (Array.getElem?_eq_some_iff.1 hk).1 (fun e => by
      obtain ⟨o, ho, hc⟩ := hr k e.symm
      rw [hk] at ho; injection ho with ho; subst ho; cases hc)).trans hk
  have main : ∀ p, Lib.BuilderAtF 95 5 B b p (Lib.byteCells l) W → Lib.BuilderAtF 95 5 B b p (Lib.byteCells l) W' := fun p h => by
    obtain ⟨hB, v, hb, hown, hne⟩ := h
    refine ⟨hB, v, key _ _ _ _ hb, ⟨hown.1, ?_⟩, hne⟩
    rcases hown.2 with hn | ⟨g, cap, cur, fz, hv, hbg, hgg, rest⟩
    · exact .inl hn
    · exact .inr ⟨g, cap, cur, fz, hv, hbg, key _ _ _ _ hgg, rest⟩
  exact Or.imp (main _) (main _) h
theorem bld_below {B b : Nat} {l : List UInt8} {W W' : World} (h : Bld B b l W) (hb : Below W.heap.size W W') : Bld B b l W' :=
  bld_grown (row := none) h ⟨hb.os, hb.tape, hb.output, hb.size, fun k hk _ => hb.block k hk⟩ (fun r e => by cases e)
/-- what stands around the rounds: the number's box, the builder, the key's and the info's boxes -/
def EX (w W : World) (key info : ByteArray) (n : Nat) (l : List UInt8) : Prop :=
  Below w.heap.size w W ∧ Blk W w.heap.size 3 #[.int .i64 n] ∧ Bld (w.heap.size + 1) (w.heap.size + 1) l W ∧ Blk W (w.heap.size + 1 + 1) 9 #[.string key] ∧ Blk W (w.heap.size + 1 + 1 + 1) 9 #[.string info]
theorem EX.grown {w W W' : World} {key info : ByteArray} {n : Nat} {l : List UInt8} {row : Option Nat} (h : EX w W key info n l) (hg : W.grownBy W' row) (hr : ∀ r, row = some r → w.heap.size ≤ r ∧ ∃ o : Obj, W.heap[r]? = some o ∧ o.isCells = false) : EX w W' key info n l := by
  obtain ⟨h1, h2, h3, h4, h5⟩ := h
  have hr' := fun r e => (hr r e).2
  exact ⟨h1.grown hg h1.size (fun k e => by have := (hr k e).1; omega), blk_own _ _ (fun (_ : Unit) => _) () W W' row h2 hg hr', bld_grown h3 hg hr', blk_own _ _ (fun (_ : Unit) => _) () W W' row h4 hg hr', blk_own _ _ (fun (_ : Unit) => _) () W W' row h5 hg hr'⟩
theorem EX.write {w W W' : World} {key info : ByteArray} {n : Nat} {l l' : List UInt8} (h : EX w W key info n l) (hb : Below (w.heap.size + 1) W W') (hk : BldKept (w.heap.size + 1) W W') (hl : Bld (w.heap.size + 1) (w.heap.size + 1) l' W') : EX w W' key info n l' := by
  obtain ⟨h1, h2, h3, h4, h5⟩ := h
  exact ⟨h1.trans (hb.mono (by omega)), h2.below hb (by omega), hl, hk.blk h4 (by omega) (by decide), hk.blk h5 (by omega) (by decide)⟩
def KK (w A B : World) : Prop := Kept 0 A B ∧ Kept (w.heap.size + 1 + 1) A B ∧ Kept (w.heap.size + 1 + 1 + 1) A B ∧ A.heap.size ≤ B.heap.size
theorem KK.of {w A B : World} {key info : ByteArray} {n : Nat} {l l' : List UInt8} (h : EX w A key info n l) (h' : EX w B key info n l') (hb : Below (w.heap.size + 1) A B) (h0 : 0 < w.heap.size) : KK w A B :=
  ⟨Kept.below hb (by omega), (show B.heap[w.heap.size + 1 + 1]? = A.heap[w.heap.size + 1 + 1]? by rw [show B.heap[w.heap.size + 1 + 1]? = _ from h'.2.2.2.1, show A.heap[w.heap.size + 1 + 1]? = _ from h.2.2.2.1]), (show B.heap[w.heap.size + 1 + 1 + 1]? = A.heap[w.heap.size + 1 + 1 + 1]? by rw [show B.heap[w.heap.size + 1 + 1 + 1]? = _ from h'.2.2.2.2, show A.heap[w.heap.size + 1 + 1 + 1]? = _ from h.2.2.2.2]), hb.size⟩
theorem KK.refl (w A : World) : KK w A A := ⟨Kept.refl _ _, Kept.refl _ _, Kept.refl _ _, Nat.le_refl _⟩
theorem KK.trans {w A B C : World} (h : KK w A B) (k : KK w B C) : KK w A C := ⟨h.1.trans k.1, h.2.1.trans k.2.1, h.2.2.1.trans k.2.2.1, Nat.le_trans h.2.2.2 k.2.2.2⟩
theorem Bld.alloc {B b : Nat} {l : List UInt8} {w : World} (h : Bld B b l w) (o : Obj) : Bld B b l (w.alloc o) := Lib.IsBuilderF.alloc h o
theorem Bld.drew {B b : Nat} {l : List UInt8} {w : World} (h : Bld B b l w) : Bld B b l w.drew := h
theorem kexp_no (key info : ByteArray) (n : Int) (w : World) (h : n < 1 ∨ 8160 < n) :
    Calls Tryd.prog 37 #[.string key, .string info, .int .i64 n] w fun e w' => e = .returned (.tuple #[.string ByteArray.empty, .int .i64 1]) ∧ Below w.heap.size w w' := by
  by_cases h1 : n < 1
  · have t1 : decide (n < 1) = true := by simpa using h1
    clear h h1
    go_enter Tryd.func37, Tryd.ntmps37
    go_wp2
    go_ret2
    exact ⟨rfl, by go_grown⟩
  · have t1 : decide (n < 1) = false := by simpa using h1
    have t2 : decide (8160 < n) = true := by simp; omega
    clear h h1
    go_enter Tryd.func37, Tryd.ntmps37
    go_wp2
    go_ret2
    exact ⟨rfl, by go_grown⟩
set_option maxHeartbeats 1000000 in
set_option maxRecDepth 100000 in
theorem kexp_in (key info : ByteArray) (n : Nat) (w : World) (hG : Rounds w) (hk : key.size ≤ 1000000) (hi : info.size ≤ 100000) (h1 : 1 ≤ n) (h2 : n ≤ 8160) :
    Calls Tryd.prog 37 #[.string key, .string info, .int .i64 n] w fun e w' => e = .returned (.tuple #[.string (expB key info n), .int .i64 0]) ∧ Below w.heap.size w w' := by
  have HG := Lib.hid hG
  have HS := Lib.hid (And.intro hk hi)
  have hpos := hG.pos
  have t1 : decide ((n : Int) < 1) = false := by simp; omega
  have t2 : decide (8160 < (n : Int)) = false := by simp; omega
  clear hG hk hi
  refine (callsIn_wide (n := 10)).1 ?_
  refine callsIn_of_wp_marks Tryd.func37 rfl trivial ?_ rfl
  simp only [Tryd.ntmps37, List.size_toArray, List.length_cons, List.length_nil, Nat.reduceAdd, Nat.reduceSub, Array.replicate_succ, Array.replicate_zero, List.push_toArray, List.append_toArray, List.nil_append, List.cons_append]
  gi_wp2_with fail
  refine ⟨trivial, ?_⟩
  gi_at_call 96
  refine (kparts_in Fence.wide _ trivial rfl key info _).mono ?_
  rintro e w3 ⟨rfl, rfl⟩
  gi_wp2_with fail
  have hEX : EX w ((((w.alloc (.cells #[.int .i64 n] 3)).alloc (.cells #[.pointer none, .slice none 0 0] 95)).alloc (.cells #[.string key] 9)).alloc (.cells #[.string info] 9)) key info n (catL []) := by
    refine ⟨by go_grown, (((Blk.new w _ _).alloc _).alloc _).alloc _, ?_, (Blk.new_at (g := w.heap.size + 1 + 1) (by simp) _ _).alloc _, Blk.new_at (g := w.heap.size + 1 + 1 + 1) (by simp) _ _⟩
    have h0 := bld_new (w.alloc (.cells #[.int .i64 n] 3))
    rw [World.size_alloc] at h0
    exact (h0.alloc _).alloc _
  generalize hW0 : (((w.alloc (.cells #[.int .i64 n] 3)).alloc (.cells #[.pointer none, .slice none 0 0] 95)).alloc (.cells #[.string key] 9)).alloc (.cells #[.string info] 9) = W0 at hEX ⊢
  have hsz0 : W0.heap.size = w.heap.size + 1 + 1 + 1 + 1 := by rw [← hW0]; simp
  have HEX := Lib.hid hEX
  have HG0 := Lib.hid (rounds_of HG.out hEX.1)
  clear hW0 hEX t1 t2
  refine wpIn_rangeFunc_ownH rfl (by omega) (gf := 137) (lb := #[.pointer (some ⟨w.heap.size + 1 + 1, 0, none⟩), .pointer (some ⟨w.heap.size + 1 + 1 + 1, 0, none⟩)]) rfl trivial (enters_of Tryd.func137 (by kernel_rfl) rfl)
    (encs := fun x : P32 => #[.string x.x]) (Kp := KK w) (S := fun xs => xs = partsL key info 255) (Sp := fun pre => pre <+: partsL key info 255) (N := 255) (w0 := W0)
    (fun l J Jx W hW hJ hJx hY h0 => kparts1_in _ (by omega) l (w.heap.size + 1 + 1) (w.heap.size + 1 + 1 + 1) key info HS.out.1 HS.out.2 J Jx (KK w) (KK.refl w) (fun _ _ _ => KK.trans) (fun A B h => ⟨h.2.1.cell 0, h.2.2.1.cell 0⟩)
      (fun A B h hg k x hx => (h.1.cell k).trans (hg k x hx)) (fun A B h1 h2 hg hb => ⟨Kept.below hb hg.pos, Kept.below hb h1, Kept.below hb h2, hb.size⟩) (fun A B h => h.2.2.2)
      (fun pre A B hs hb => hJ pre A B none hs ⟨hb.os, hb.tape, hb.output, hb.size, fun k hk _ => hb.block k hk⟩ (fun r e => by cases e)) hY W (rounds_of HG0.out hW)
      ((hW.cell (p := ⟨w.heap.size + 1 + 1, 0, none⟩) (by simp; omega)).trans (HEX.out.2.2.2.1.cells 0 _ rfl)) ((hW.cell (p := ⟨w.heap.size + 1 + 1 + 1, 0, none⟩) (by simp; omega)).trans (HEX.out.2.2.2.2.cells 0 _ rfl)) (by have := hW.size; omega) (by have := hW.size; omega) h0)
    KK.trans (fun W l o o' hl h1 h2 h3 => by
      have hb := belowK_b (n₀ := W0.heap.size) (w := W0) (Nat.le_refl _) W l o o' hl h1 h2 h3
      exact ⟨Kept.below hb (by omega), Kept.below hb (by omega), Kept.below hb (by omega), hb.size⟩) (Below.refl _ _) (fun _ => rfl)
    (fun pre W => EX w W key info n (catL pre) ∧ 32 * pre.length < n ∧ W0.heap.size ≤ W.heap.size)
    (fun cd pre W => cd = .exit 0 ∧ ∃ (pre0 : List P32) (x : P32), pre = pre0 ++ [x] ∧ 32 * pre0.length < n ∧ n ≤ 32 * pre0.length + 32 ∧ EX w W key info n (catL pre0 ++ (x.x.extract 0 (n - 32 * pre0.length)).data.toList))
    (fun st W W' row hs hg hr => ⟨hs.1.grown hg (fun r e => ⟨by have := (hr r e).1; omega, (hr r e).2⟩), hs.2.1, Nat.le_trans hs.2.2 hg.size⟩)
    (fun cd st W W' row hs hg hr => by
      obtain ⟨h1, pre0, x, h2, h3, h4, h5⟩ := hs
      exact ⟨h1, pre0, x, h2, h3, h4, h5.grown hg (fun r e => ⟨by have := (hr r e).1; omega, (hr r e).2⟩)⟩)
    ⟨HEX.out, by simp; omega, Nat.le_refl _⟩
    (fun x a' W => a' = { tmps := #[.string key, .string info, .int .i64 n, undef, undef, .pointer (some ⟨w.heap.size, 0, none⟩), .string ByteArray.empty, .int .i64 0, .pointer (some ⟨w.heap.size + 1, 0, none⟩), .string x.x, undef, .int .i64 n, .bool false, .bool false, .int .i64 n, .bool false, .bool false, .string key, .string info, .func (.func 137) #[] #[.pointer (some ⟨w.heap.size + 1 + 1, 0, none⟩), .pointer (some ⟨w.heap.size + 1 + 1 + 1, 0, none⟩)], .string x.x, undef, undef, undef, undef, undef, undef, undef, undef, undef, undef, undef, undef, undef, undef], defers := [] })
    (fun _ _ _ _ _ _ h _ _ => h)
    ?assign ?body ?done ?stop
  case assign =>
    rintro l pre x W K hI hK
    gi_wp2
    exact hK _ _ (KeepsFrom.refl _ _) (KK.refl w _) hI rfl
  case body =>
    rintro l pre x a' W hl _ ⟨hE, hn, hzW⟩ rfl hlt
    have c0 := hE.2.1.cells 0 _ rfl
    simp only [List.getElem_toArray, List.getElem_cons_zero] at c0
    obtain ⟨m, hm⟩ : ∃ m, 32 * pre.length = m := ⟨_, rfl⟩
    rw [hm] at hn
    obtain ⟨d, hd⟩ : ∃ d, n - m = d := ⟨_, rfl⟩
    have e1 : (n : Int) - (m : Int) = (d : Int) := by omega
    have e2 : IntKind.i64.wrap (d : Int) = (d : Int) := wrap_i64_nat _ (by omega)
    have d0 : (0 : Int) ≤ (d : Int) := by omega
    have hx32 := x.ok
    have hlen := bld_len (w.heap.size + 1) (w.heap.size + 1) (catL pre) W.drew hE.2.2.1.drew
    rw [catL_len, hm] at hlen
    have HLEN := Lib.hid hlen
    have HE := Lib.hid hE
    have HM := Lib.hid (And.intro hm (And.intro hn hd))
    have hse := hE.1.size
    have m255 : m < 8160 := by omega
    clear hlen hE hm hn hd
    by_cases hle : d ≤ 32
    · have l1 : (d : Int) ≤ 32 := by omega
      gi_wp2_with fail
      gi_region_with (refine ⟨trivial, ?_⟩; gi_at_call 97; refine (CallsIn.inRound l (callsIn_wide.2 HLEN.out)).mono ?_; rintro e w' ⟨rfl, rfl⟩)
      all_goals
        gi_wp2_with fail
        refine ⟨trivial, ?_⟩
        gi_at_call 98
        have hw := bld_write (w.heap.size + 1) (w.heap.size + 1) (catL pre) (x.x.extract 0 d) W.drew HE.out.2.2.1.drew (by rw [catL_len, HM.out.1, size_extract]; omega) (by simp; omega)
        refine (CallsIn.inRound l (callsIn_wide.2 hw)).mono ?_
        rintro e w1 ⟨rfl, hl1, hb1', hk1⟩
        have hb1 : Below (w.heap.size + 1) W w1 := Below.trans ((Below.refl _ W).drew) hb1'
        have hko := BldKept.others hk1 HE.out.2.2.1.drew hb1'.size
        have hko : KeepsOthers W w1 := ⟨hb1.size, fun k o hk ho => hko.same k o hk ho⟩
        clear hb1'
        have hE1 : EX w w1 key info n (catL pre ++ (x.x.extract 0 d).data.toList) := EX.write HE.out hb1 hk1 hl1
        have HF := Lib.hid (And.intro hko hE1)
        clear hw hl1 hb1 hk1 hE1 hko
        gi_wp2_with fail
        refine ⟨HF.out.1.from _, rfl, pre, x, rfl, by rw [HM.out.1]; exact HM.out.2.1, by have := HM.out.1; have := HM.out.2; omega, ?_⟩
        have h := HF.out.2
        rw [show n - 32 * pre.length = d by rw [HM.out.1]; exact HM.out.2.2]
        exact h
    · have l1 : 32 < (d : Int) := by omega
      gi_wp2_with fail
      gi_region_with (refine ⟨trivial, ?_⟩; gi_at_call 97; refine (CallsIn.inRound l (callsIn_wide.2 HLEN.out)).mono ?_; rintro e w' ⟨rfl, rfl⟩)
      all_goals
        gi_wp2_with fail
        refine ⟨trivial, ?_⟩
        gi_at_call 98
        have hw := bld_write (w.heap.size + 1) (w.heap.size + 1) (catL pre) x.x W.drew HE.out.2.2.1.drew (by rw [catL_len, HM.out.1]; omega) (by simp; omega)
        refine (CallsIn.inRound l (callsIn_wide.2 hw)).mono ?_
        rintro e w1 ⟨rfl, hl1, hb1', hk1⟩
        have hb1 : Below (w.heap.size + 1) W w1 := Below.trans ((Below.refl _ W).drew) hb1'
        have hko := BldKept.others hk1 HE.out.2.2.1.drew hb1'.size
        have hko : KeepsOthers W w1 := ⟨hb1.size, fun k o hk ho => hko.same k o hk ho⟩
        clear hb1'
        have hE1 : EX w w1 key info n (catL pre ++ x.x.data.toList) := EX.write HE.out hb1 hk1 hl1
        have HF := Lib.hid (And.intro hko (And.intro hE1 (And.intro (KK.of HE.out hE1 hb1 hpos) hb1.size)))
        clear hw hl1 hb1 hk1 hE1 hko
        gi_wp2_with fail
        refine ⟨HF.out.1.from _, HF.out.2.2.1, ?_, by rw [List.length_append]; simp; have := HM.out; omega, by have := HF.out.2.2.2; omega⟩
        rw [catL_snoc]
        exact HF.out.2.1
  case done =>
    rintro D ys W hD rfl ⟨hE, hn, hzW⟩ hK
    exfalso
    rw [partsL_len] at hn
    omega
  case stop =>
    rintro D cd pre W hD hpre ⟨rfl, pre0, x, rfl, hn1, hn2, hE⟩ hK0
    have hp := partsL_of_prefix key info hpre
    have hl : (pre0 ++ [x]).length = pre0.length + 1 := by simp
    rw [hl, ← partsL_succ] at hp
    obtain ⟨h1, h2⟩ := List.append_inj' hp rfl
    have hx : x.x = partK key info (pre0.length + 1) := by
      injection h2 with h2 _
      rw [h2]; rfl
    have hcat : (⟨(catL pre0 ++ (x.x.extract 0 (n - 32 * pre0.length)).data.toList).toArray⟩ : ByteArray) = expB key info n := by
      rw [← cat_cut key info hn1 hn2, hx]
      have h3 : catL pre0 = (catK key info pre0.length).data.toList := by rw [h1, catL_parts]; rw [← h1]
      rw [h3]
      apply ByteArray.ext
      rw [ByteArray.data_append]
      apply Array.ext'
      simp
    obtain ⟨l, hll⟩ : ∃ l, catL pre0 ++ (x.x.extract 0 (n - 32 * pre0.length)).data.toList = l := ⟨_, rfl⟩
    rw [hll] at hE hcat
    have hs := bld_string (w.heap.size + 1) (w.heap.size + 1) l W hE.2.2.1 (by have := hE.2.2.1; have := hE.2.1.lt; omega)
    rw [hcat] at hs
    have HS1 := Lib.hid hs
    have HE := Lib.hid hE
    have HK0 := Lib.hid hK0
    clear hs hE hcat hll hx h1 h2 hp hpre hK0
    gi_wp2_with fail
    refine ⟨trivial, ?_⟩
    gi_at_call 99
    refine (callsIn_wide.2 HS1.out).mono ?_
    rintro e w1 ⟨rfl, hl1, hb1, hk1⟩
    have hK1 : w1.heap[D]? = some (.deferred (some [])) := hk1 D _ HK0.out (by
      intro e
      cases e
      have hk := HK0.out
      rcases HE.out.2.2.1 with ⟨_, v, hx, _⟩ | ⟨_, v, hx, _⟩ <;>
      · rw [hx] at hk; cases hk) (fun c fz e => by cases e)
    have hB1 := HE.out.1.trans (hb1.mono (by omega))
    clear hb1 hk1 hl1
    gi_wp2_with fail
    refine ⟨by simp, .inl ⟨_, _, rfl, run_takeDeferred hK1, ?_⟩⟩
    exact ⟨_, results_tmp2 rfl _ _ _, by simp, hB1.trans (belowK_b (n₀ := w.heap.size) (w := W0) HEX.out.1.size w1 D _ _ hD hK1 rfl rfl)⟩
end Go.Proofs.YtkaaicmadknjcaaDoor
