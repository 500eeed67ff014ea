/- platter.Read. -/
import Derived.Test.YtefodifmfjpnlaaDoorPlatD
import Derived.Test.YtefodifmfjpnlaaDoorPlatH
set_option linter.unusedVariables false
namespace Go.Proofs.YtefodifmfjpnlaaDoor
open Go.RowKit Go.Shelf
attribute [local go_sem] Oper.semAt_some
def lastP (L : List PPut) (i : Int) : Option PPut := L.reverse.find? (fun x => decide (x.pos = i))
def readOf (p : Plat) (i : Nat) : ByteArray := match lastP p.cache i with | some x => x.text | none => p.sectors.getD i ByteArray.empty
def readF (p : Plat) (i : Int) : ByteArray × Int := if checkP p = true then if hasB p.sectors.length i = true then (readOf p i.toNat, 0) else (ByteArray.empty, 130) else (ByteArray.empty, 1)
def OutR (w : World) (r : ByteArray × Int) (e : Ending) (w' : World) : Prop := e = .returned (.tuple #[.string r.1, .int .i64 r.2]) ∧ Below w.heap.size w w'

/-- the four boxes of Read -/
def RB (w wX : World) (n : Nat) (A : Option Addr) (c : Nat) (A' : Option Addr) (m d i : Nat) (s : ByteArray) (er : Int) : Prop := Below w.heap.size w wX ∧
  Blk wX w.heap.size 25 #[.slice A n c, .slice A' m d] ∧ Blk wX (w.heap.size + 1) 3 #[.int .i64 i] ∧ Blk wX (w.heap.size + 1 + 1) 9 #[.string s] ∧ Blk wX (w.heap.size + 1 + 1 + 1) 29 #[.int .i64 er]
theorem RB.below {w wX wY : World} {n c m d i : Nat} {A A' : Option Addr} {s : ByteArray} {er : Int} (h : RB w wX n A c A' m d i s er) (hb : Below wX.heap.size wX wY) : RB w wY n A c A' m d i s er :=
  ⟨h.1.trans (hb.mono h.1.size), h.2.1.below hb h.2.1.lt, h.2.2.1.below hb h.2.2.1.lt, h.2.2.2.1.below hb h.2.2.2.1.lt, h.2.2.2.2.below hb h.2.2.2.2.lt⟩
theorem pblk_own {β : Type} (g : Nat) (t : TypeId) (cs : β → Array Value) : Own (fun (s : β) (W : World) => Blk W g t (cs s)) := by
  intro s W W' row h hg hr
  refine h.grown hg (fun e => ?_)
  obtain ⟨o, ho, hc⟩ := hr g e.symm
  unfold Blk at h
  rw [h] at ho
  injection ho with ho
  subst ho
  simp [Obj.isCells] at hc

theorem RB.store {w W : World} {n c m d i : Nat} {A A' : Option Addr} {s0 : ByteArray} {e0 : Int} (h : RB w W n A c A' m d i s0 e0) (s : ByteArray) (er : Int) :
    RB w ((W.setCell ⟨w.heap.size + 1 + 1, 0, none⟩ (.string s)).setCell ⟨w.heap.size + 1 + 1 + 1, 0, none⟩ (.int .i64 er)) n A c A' m d i s er := by
  obtain ⟨h1, h2, h3, h4, h5⟩ := h
  refine ⟨(h1.setCell (by simp; omega) _).setCell (by simp; omega) _, (h2.far (by simp; omega) _).far (by simp; omega) _, (h3.far (by simp) _).far (by first | (simp; done) | (simp; omega)) _, ?_, ?_⟩
  · have := (h4.set_ 0 (.string s)).far (p := ⟨w.heap.size + 1 + 1 + 1, 0, none⟩) (by simp) (.int .i64 er)
    simpa using this
  · have := (h5.far (p := ⟨w.heap.size + 1 + 1, 0, none⟩) (by simp) (.string s)).set_ 0 (.int .i64 er)
    simpa using this
theorem RB.own {w W W' : World} {row : Option Nat} {B n c m d i : Nat} {A A' : Option Addr} {s : ByteArray} {er : Int} (hB : w.heap.size ≤ B) (h : RB w W n A c A' m d i s er) (hg : W.grownBy W' row)
    (hr : ∀ r, row = some r → B ≤ r ∧ ∃ o : Obj, W.heap[r]? = some o ∧ o.isCells = false) : RB w W' n A c A' m d i s er := by
  obtain ⟨h1, h2, h3, h4, h5⟩ := h
  have hr' := fun r e => (hr r e).2
  exact ⟨h1.grown hg h1.size (fun k e => by have := (hr k e).1; omega), pblk_own _ _ (fun (_ : Unit) => _) () W W' row h2 hg hr', pblk_own _ _ (fun (_ : Unit) => _) () W W' row h3 hg hr', pblk_own _ _ (fun (_ : Unit) => _) () W W' row h4 hg hr', pblk_own _ _ (fun (_ : Unit) => _) () W W' row h5 hg hr'⟩

set_option maxHeartbeats 1000000 in
set_option maxRecDepth 100000 in
theorem read_ok (p : Plat) (i : Nat) (A A' : Option Addr) (n m c d : Nat) (w : World) (HP : PlatPre w A n A' m p) (hn : p.sectors.length = n) (hm : p.cache.length = m) (hmm : m ≤ 100) (hn2 : n ≤ 200)
    (hc : checkP p = true) (hi : i < n) :
    Calls Tryd.prog 34 #[.agg #[.slice A n c, .slice A' m d], .int .i64 i] w (OutR w (readOf p i, 0)) := by
  have HN := Lib.hid (And.intro hn hm)
  have hh : hasB n i = true := by simp [hasB, hi]
  clear hn hm
  refine (callsIn_wide (n := 10)).1 ?_
  refine callsIn_of_wp_marks Tryd.func34 rfl trivial ?_ rfl
  simp only [Tryd.ntmps34, List.size_toArray, List.length_cons, List.length_nil, Nat.reduceAdd, Nat.reduceSub, Array.replicate_succ, Array.replicate_zero, List.push_toArray, List.append_toArray, List.nil_append, List.cons_append]
  gi_wp2_with fail
  refine ⟨trivial, ?_⟩
  gi_at_call 46
  refine (callsIn_wide.2 (checkP_any p A A' n m c d _ (HP.step (by go_grown)))).mono ?_
  rintro e w1 ⟨rfl, hb1⟩
  rw [hc]
  have HR1 : Hid (RB w w1 p.sectors.length A c A' m d i ByteArray.empty 0) := by
    rw [HN.out.1]
    refine ⟨Below.trans (by go_grown) (hb1.mono (by simp; omega)), ((((Blk.new w _ _).alloc _).alloc _).alloc _).below hb1 (by simp; omega), (((Blk.new_at (g := w.heap.size + 1) (by simp) _ _).alloc _).alloc _).below hb1 (by simp; try omega), ((Blk.new_at (g := w.heap.size + 1 + 1) (by simp) _ _).alloc _).below hb1 (by simp), (Blk.new_at (g := w.heap.size + 1 + 1 + 1) (by simp) _ _).below hb1 (by simp)⟩
  rw [HN.out.1] at HR1
  have q0 := HR1.out.2.1.cells 0 _ rfl
  have q1 := HR1.out.2.1.cells 1 _ rfl
  have r0 := HR1.out.2.2.1.cells 0 _ rfl
  simp only [List.getElem_toArray, List.getElem_cons_zero, List.getElem_cons_succ] at q0 q1 r0
  clear hb1
  gi_wp2_with fail
  refine ⟨trivial, ?_⟩
  gi_at_call 50
  refine (callsIn_wide.2 (has_any p n m A A' c d i _ HN.out.1)).mono ?_
  rintro e w2 ⟨rfl, hb2⟩
  rw [HN.out.1, hh]
  have HR2 := HR1.out.below hb2
  clear q0 q1 r0 HR1 hb2
  have HR2 := Lib.hid HR2
  have q1 := HR2.out.2.1.cells 1 _ rfl
  simp only [List.getElem_toArray, List.getElem_cons_zero, List.getElem_cons_succ] at q1
  gi_wp2_with fail
  refine ⟨trivial, ?_⟩
  gi_at_call 51
  refine (backward_in Fence.wide _ trivial rfl A' m d w2).mono ?_
  rintro e w3 ⟨rfl, rfl⟩
  gi_wp2_with fail
  have hsz2 := HR2.out.2.2.2.2.lt
  have hP2 := HP.step HR2.out.1
  have hB0 : Below w2.heap.size w2 (w2.alloc (.cells #[.slice A' m d] 23)) := (Below.refl _ _).alloc (Nat.le_refl _) _
  have hbn := Blk.new w2 23 #[.slice A' m d]
  have hRW := HR2.out.below hB0
  have hLL : SlR encP 2 (w2.alloc (.cells #[.slice A' m d] 23)) (w2.heap.size + 1) A' m p.cache := (hP2.2.below hB0).more (by omega)
  have HPX : Hid (∀ W, Below w.heap.size w W → SlR encS 1 W W.heap.size A n p.sectors) := fun W hb => (HP.step hb).1
  clear q1
  generalize hW0 : w2.alloc (.cells #[.slice A' m d] 23) = W0 at hB0 hbn hRW hLL ⊢
  have hsz0 : W0.heap.size = w2.heap.size + 1 := by rw [← hW0]; simp
  clear hW0
  refine wpIn_rangeFunc_ownH rfl (by omega) (gf := 64) (lb := #[.pointer (some ⟨w2.heap.size, 0, none⟩)]) rfl trivial (enters_of Tryd.func64 (by kernel_rfl) rfl)
    (encs := fun x => #[pv x]) (Kp := Below (w2.heap.size + 1)) (S := fun xs => xs = p.cache.reverse) (Sp := fun pre => pre <+: p.cache.reverse) (N := p.cache.length) (w0 := W0)
    (fun l J Jx W hW hJ hJx hY h0 => backward1_in Fence.wide _ trivial rfl (by omega) l w2.heap.size (w2.heap.size + 1) p.cache A' m d J Jx hY W ((hW.cell (p := ⟨w2.heap.size, 0, none⟩) (by simp; omega)).trans (hbn.cells 0 _ rfl)) (by omega) ((hLL.below (hW.mono (by omega)))) (by omega) h0)
    belowK_t (belowK_b (by omega)) (Below.refl _ _) (fun _ => rfl)
    (fun pre W => RB w W n A c A' m d i ByteArray.empty 0 ∧ (∀ x ∈ pre, x.pos ≠ (i : Int)) ∧ w2.heap.size + 1 ≤ W.heap.size)
    (fun cd pre W => cd = .ret ∧ ∃ pre0 x, pre = pre0 ++ [x] ∧ (∀ y ∈ pre0, y.pos ≠ (i : Int)) ∧ x.pos = (i : Int) ∧ RB w W n A c A' m d i x.text 0)
    (fun s W W' row hs hg hr => ⟨RB.own (by omega) hs.1 hg hr, hs.2.1, Nat.le_trans hs.2.2 hg.size⟩)
    (fun cd s W W' row hs hg hr => by
      obtain ⟨h1, pre0, x, h2, h3, h4, h5⟩ := hs
      exact ⟨h1, pre0, x, h2, h3, h4, RB.own (by omega) h5 hg hr⟩)
    ⟨hRW, (fun x hx => by cases hx), by omega⟩
    (fun x a' W => ∃ Bx, w.heap.size + 4 ≤ Bx ∧ Blk W Bx 52 #[.int .i64 x.pos, .string x.text] ∧ a' = { tmps := #[.agg #[.slice A n c, .slice A' m d], .int .i64 i, .pointer (some ⟨w.heap.size, 0, none⟩), .pointer (some ⟨w.heap.size + 1, 0, none⟩), .pointer (some ⟨w.heap.size + 1 + 1, 0, none⟩), .pointer (some ⟨w.heap.size + 1 + 1 + 1, 0, none⟩), .pointer (some ⟨Bx, 0, none⟩), .agg #[.slice A n c, .slice A' m d], .bool true, .bool false, .agg #[.slice A n c, .slice A' m d], .int .i64 i, .bool true, .bool false, .pointer (some ⟨w.heap.size, 1, none⟩), .slice A' m d, .func (.func 64) #[] #[.pointer (some ⟨w2.heap.size, 0, none⟩)], pv x, undef, undef, undef, undef, undef, undef, undef, undef, undef, undef, undef], defers := [] })
    (fun x a' s W W' row hs hg hr => by
      obtain ⟨Bx, h1, h2, h3⟩ := hs
      exact ⟨Bx, h1, pblk_own Bx _ (fun (_ : Unit) => #[.int .i64 x.pos, .string x.text]) () W W' row h2 hg (fun r e => (hr r e).2), h3⟩)
    ?assign ?body ?done ?stop
  case assign =>
    rintro l pre x W K ⟨hR, hno, hzW⟩ hK
    have hz := hR.2.2.2.2.lt
    have hz' := hR.1.size
    simp only [pv]
    gi_wp2
    exact hK _ _ ((KeepsOthers.alloc _ _).from _) ((Below.refl _ W).alloc hzW _) ⟨hR.below (by go_grown), hno, by simp; omega⟩ ⟨W.heap.size, by omega, Blk.new W _ _, rfl⟩
  case body =>
    rintro l pre x a' W hl _ ⟨hR, hno, hzW⟩ ⟨Bx, hBx, hX, rfl⟩ hlt
    have x0 := hX.cells 0 _ rfl
    have x1 := hX.cells 1 _ rfl
    have i0 := hR.2.2.1.cells 0 _ rfl
    have s0 := hR.2.2.2.1.cells 0 _ rfl
    have e0 := hR.2.2.2.2.cells 0 _ rfl
    have fs := hR.2.2.2.1.frozen 0
    have fe := hR.2.2.2.2.frozen 0
    have hz := hR.2.2.2.2.lt
    simp only [List.getElem_toArray, List.getElem_cons_zero, List.getElem_cons_succ] at x0 x1 i0 s0 e0
    have HX := Lib.hid (And.intro hR (And.intro hno hX))
    clear hR hno hX
    by_cases hx : x.pos = (i : Int)
    · have t1 : (x.pos == (i : Int)) = true := by simp [hx]
      have HXe := Lib.hid hx
      clear hx
      gi_wp2
      exact ⟨((KeepsOthers.setCell _ _ _).trans (KeepsOthers.setCell _ _ _)).from _, rfl, pre, x, rfl, HX.out.2.1, HXe.out, HX.out.1.store _ _⟩
    · have t1 : (x.pos == (i : Int)) = false := by simpa using hx
      have HXe := Lib.hid hx
      clear hx
      gi_wp2
      exact ⟨KeepsFrom.refl _ _, Below.refl _ _, HX.out.1, fun y hy => by
        rcases List.mem_append.1 hy with hy | hy
        · exact HX.out.2.1 y hy
        · rw [List.mem_singleton.1 hy]; exact HXe.out, hzW⟩
  case done =>
    rintro D ys W hD rfl ⟨hR, hno, hzW⟩ hK
    have q0 := hR.2.1.cells 0 _ rfl
    have i0 := hR.2.2.1.cells 0 _ rfl
    have s0 := hR.2.2.2.1.cells 0 _ rfl
    have e0 := hR.2.2.2.2.cells 0 _ rfl
    have fs := hR.2.2.2.1.frozen 0
    have fe := hR.2.2.2.2.frozen 0
    have hz := hR.2.2.2.2.lt
    have hS := HPX.out W hR.1
    obtain ⟨s, hs⟩ : ∃ s, p.sectors[i]? = some s := ⟨p.sectors[i]'(by rw [HN.out.1]; exact hi), List.getElem?_eq_getElem (by rw [HN.out.1]; exact hi)⟩
    rcases hS.2 with h0 | ⟨b, off, rfl, hb, hC⟩
    · omega
    have c0 := hC.str hs
    simp only [List.getElem_toArray, List.getElem_cons_zero] at q0 i0 s0 e0
    have i1 : (0 : Int) ≤ (i : Int) := by omega
    have i2 : (i : Int) < (n : Int) := by omega
    have hval : readOf p i = s := by
      unfold readOf
      have : lastP p.cache i = none := by
        unfold lastP
        rw [List.find?_eq_none]
        intro x hx
        simpa using hno x hx
      rw [this]
      simp [List.getD, hs]
    have HF := Lib.hid (And.intro (hR.store s 0) (And.intro hval hK))
    clear hR hno hS hC hval hK hs
    gi_wp2
    have hK : ((W.setCell ⟨w.heap.size + 1 + 1, 0, none⟩ (.string s)).setCell ⟨w.heap.size + 1 + 1 + 1, 0, none⟩ (.int .i64 0)).heap[D]? = some (.deferred (some [])) := ((KeepsOthers.setCell _ _ _).trans (KeepsOthers.setCell _ _ _)).same D _ HF.out.2.2 rfl
    have hRF := RB.own (B := w.heap.size) (Nat.le_refl _) HF.out.1 (grownBy_putObj' _ D (.deferred none)) (fun r e => by cases e; exact ⟨by omega, _, hK, rfl⟩)
    have a0 := hRF.2.2.2.1.cells 0 _ rfl
    have a1 := hRF.2.2.2.2.cells 0 _ rfl
    simp only [List.getElem_toArray, List.getElem_cons_zero] at a0 a1
    refine ⟨by simp, .inl ⟨_, _, rfl, run_takeDeferred hK, ?_⟩⟩
    exact ⟨.tuple #[.string s, .int .i64 0], by simp [results, Tryd.results34, go_sem, a0, a1], by rw [HF.out.2.1], hRF.1⟩
  case stop =>
    rintro D cd pre W hD hpre ⟨rfl, pre0, x, rfl, hno, hxi, hR⟩ hK0
    have hval : readOf p i = x.text := by
      unfold readOf lastP
      obtain ⟨rest, hrest⟩ := hpre
      have h1 : (pre0 ++ [x] ++ rest).find? (fun x => decide (x.pos = (i : Int))) = some x := by
        rw [List.append_assoc, List.find?_append]
        have : pre0.find? (fun x => decide (x.pos = (i : Int))) = none := by
          rw [List.find?_eq_none]; intro y hy; simpa using hno y hy
        rw [this]; simp [hxi]
      rw [hrest] at h1
      rw [h1]
    have HF := Lib.hid (And.intro hR (And.intro hval hK0))
    clear hR hval hno hpre hK0 hxi
    gi_wp2
    have hK := HF.out.2.2
    have hRF := RB.own (B := w.heap.size) (Nat.le_refl _) HF.out.1 (grownBy_putObj' _ D (.deferred none)) (fun r e => by cases e; exact ⟨by omega, _, hK, rfl⟩)
    have a0 := hRF.2.2.2.1.cells 0 _ rfl
    have a1 := hRF.2.2.2.2.cells 0 _ rfl
    simp only [List.getElem_toArray, List.getElem_cons_zero] at a0 a1
    refine ⟨by simp, .inl ⟨_, _, rfl, run_takeDeferred hK, ?_⟩⟩
    exact ⟨.tuple #[.string x.text, .int .i64 0], by simp [results, Tryd.results34, go_sem, a0, a1], by rw [HF.out.2.1], hRF.1⟩
end Go.Proofs.YtefodifmfjpnlaaDoor
