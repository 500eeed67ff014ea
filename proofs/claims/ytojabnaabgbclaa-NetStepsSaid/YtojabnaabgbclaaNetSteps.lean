/- NetSteps, for every input: the walk; printed by gen_nsteps.py. -/
import Derived.Test.YtojabnaabgbclaaNetSi
import Derived.Test.YtojabnaabgbclaaNetI
set_option linter.unusedVariables false
set_option linter.unusedSimpArgs false
namespace Go.Proofs.Ytojabnaabgbclaa
open Go.RowKit
/-- the nets that were made, each in a box, its letters in a row of its own -/
def Boxes (W : World) (B : Nat) : List (Nat × Net × Option Addr × Nat) → Prop
  | [] => True
  | (g, M, A, c) :: l => (Blk W g 25 #[.slice A M.way.length c, .int .i64 M.sent, .int .i64 M.delivered, .int .i64 M.lost, .int .i64 M.doubled] ∧ W.ownsRow B 27 3 (.slice A M.way.length c) M.way.length (flat encL M.way) ∧ B ≤ g) ∧ Boxes W B l
theorem Boxes.below {W W' : World} {B : Nat} {l : List (Nat × Net × Option Addr × Nat)} (h : Boxes W B l) (hb : Below W.heap.size W W') : Boxes W' B l := by
  induction l with
  | nil => trivial
  | cons x l ih =>
    obtain ⟨g, M, A, c⟩ := x
    exact ⟨⟨h.1.1.below hb h.1.1.lt, own_below h.1.2.1 hb (Nat.le_refl _), h.1.2.2⟩, ih h.2⟩
theorem Boxes.cons {W : World} {B g c : Nat} {M : Net} {A : Option Addr} {l : List (Nat × Net × Option Addr × Nat)} (h : Boxes W B l) (h1 : Blk W g 25 #[.slice A M.way.length c, .int .i64 M.sent, .int .i64 M.delivered, .int .i64 M.lost, .int .i64 M.doubled])
    (h2 : W.ownsRow B 27 3 (.slice A M.way.length c) M.way.length (flat encL M.way)) (h3 : B ≤ g) : Boxes W B ((g, M, A, c) :: l) := ⟨⟨h1, h2, h3⟩, h⟩
def LBoxes (W : World) : List (Nat × Letter) → Prop
  | [] => True
  | (g, x) :: l => Blk W g 27 #[.string x.fr, .string x.to, .string x.text] ∧ LBoxes W l
theorem LBoxes.below {W W' : World} {l : List (Nat × Letter)} (h : LBoxes W l) (hb : Below W.heap.size W W') : LBoxes W' l := by
  induction l with
  | nil => trivial
  | cons x l ih =>
    obtain ⟨g, x⟩ := x
    exact ⟨h.1.below hb h.1.lt, ih h.2⟩
theorem LBoxes.cons {W : World} {g : Nat} {x : Letter} {l : List (Nat × Letter)} (h : LBoxes W l) (h1 : Blk W g 27 #[.string x.fr, .string x.to, .string x.text]) : LBoxes W ((g, x) :: l) := ⟨h1, h⟩
/-- a row whose cells may be written -/
def RowOk (W : World) (B : Nat) (A : Option Addr) (n : Nat) : Prop := n = 0 ∨ ∃ g cs, A = some ⟨g, 0, none⟩ ∧ B ≤ g ∧ Blk W g 27 cs ∧ n * 3 ≤ cs.size
theorem rowOk_own {W : World} {B n c : Nat} {A : Option Addr} {xs : List Value} (h : W.ownsRow B 27 3 (.slice A n c) n xs) : RowOk W B A n := by
  by_cases h0 : n = 0
  · exact .inl h0
  · have hl := h.1
    rcases h.2 with ⟨_, h1⟩ | ⟨g, cap, cur, hv, hb, hg, hn1, _, hn2, _⟩
    · exact absurd h1 h0
    · have hA : A = some ⟨g, 0, none⟩ := by injection hv
      subst hA
      exact .inr ⟨g, cur, rfl, hb, hg, by omega⟩
theorem rowOk_set {W : World} {B n g j : Nat} {A : Option Addr} {cs : Array Value} (h : RowOk W B A n) (hk : Blk W g 27 cs) (u : Value) : RowOk (W.setCell ⟨g, j, none⟩ u) B A n := by
  rcases h with h0 | ⟨g', cs', hA, hb, hk', hn⟩
  · exact .inl h0
  · by_cases e : g' = g
    · subst e
      exact .inr ⟨g', _, hA, hb, hk'.set_ j u, by simpa using hn⟩
    · exact .inr ⟨g', cs', hA, hb, hk'.far e u, hn⟩
/-- the state of the two loops that smudge -/
def SmSt (W0 : World) (ga : Nat) (Ma : Net) (Aa : Option Addr) (ca : Nat) (gc : Nat) (Mc : Net) (Ac : Option Addr) (cc : Nat) (wr : World) : Prop :=
  Below W0.heap.size W0 wr ∧ Blk wr ga 25 #[.slice Aa Ma.way.length ca, .int .i64 Ma.sent, .int .i64 Ma.delivered, .int .i64 Ma.lost, .int .i64 Ma.doubled] ∧
  Blk wr gc 25 #[.slice Ac Mc.way.length cc, .int .i64 Mc.sent, .int .i64 Mc.delivered, .int .i64 Mc.lost, .int .i64 Mc.doubled] ∧ RowOk wr W0.heap.size Aa Ma.way.length ∧ RowOk wr W0.heap.size Ac Mc.way.length
theorem smst_set {W0 wr : World} {ga gc ca cc g : Nat} {Ma Mc : Net} {Aa Ac : Option Addr} {cs : Array Value} (h : SmSt W0 ga Ma Aa ca gc Mc Ac cc wr) (hk : Blk wr g 27 cs) (hg : W0.heap.size ≤ g) (j : Nat) (u : Value) : SmSt W0 ga Ma Aa ca gc Mc Ac cc (wr.setCell ⟨g, j, none⟩ u) := by
  obtain ⟨h1, h2, h3, h4, h5⟩ := h
  exact ⟨h1.setCell hg _, h2.far (h2.ne_ hk (by decide)) _, h3.far (h3.ne_ hk (by decide)) _, rowOk_set h4 hk u, rowOk_set h5 hk u⟩
theorem bel_drew {B : Nat} {a b : World} (h : Below B a b) : Below B a b.drew := h.drew
theorem bel_one {b d : World} (h : Below b.drew.heap.size b.drew d) : Below b.heap.size b d := ⟨h.os, h.tape, h.output, h.size, h.block⟩
theorem bel_next {a b d : World} (h : Below a.heap.size a b) (hb : Below b.heap.size b d) : Below a.heap.size a d := h.trans (hb.mono h.size)
theorem forV_len (N : Net) (name : ByteArray) (hn : N.way.length ≤ 80) : (forV N name).length ≤ 80 := by
  unfold forV
  split
  · have := forTo_len N.way name N.way.length; omega
  · simp
theorem eql_same (x : Letter) (w : World) : (binOp .eql 27 (.agg #[.string x.fr, .string x.to, .string x.text]) (.agg #[.string x.fr, .string x.to, .string x.text])).run Try.prog w = .ok (.bool true) w := by
  go_simp
theorem send_len (N : Net) (l : Letter) : (sendF N l).1.way.length ≤ N.way.length + 1 := by
  unfold sendF
  repeat' split
  all_goals simp [noNet]
theorem step_len {F : Net → Nat → Int × Net} (hF : ∀ N j, (F N j).2.way.length ≤ N.way.length + 1) (N : Net) (i : Int) : (stepF F N i).2.1.way.length ≤ N.way.length + 1 := by
  unfold stepF
  repeat' split
  all_goals first | exact hF _ _ | simp [noNet]
theorem del_len (N : Net) (i : Int) : (stepF deliverF N i).2.1.way.length ≤ N.way.length + 1 := step_len (fun N j => by unfold deliverF; split <;> simp [List.length_eraseIdx]; try (split <;> omega)) N i
theorem lose_len (N : Net) (i : Int) : (stepF loseF N i).2.1.way.length ≤ N.way.length + 1 := step_len (fun N j => by unfold loseF; split <;> simp [List.length_eraseIdx]; try (split <;> omega)) N i
theorem dbl_len (N : Net) (i : Int) : (stepF doubleF N i).2.1.way.length ≤ N.way.length + 1 := step_len (fun N j => by unfold doubleF; split <;> simp) N i
set_option maxHeartbeats 4000000 in
set_option maxRecDepth 100000 in
theorem steps_main (N : Net) (l : Letter) (i : Int) (name : ByteArray) (A : Option Addr) (c : Nat) (w : World) (hS : SlR encL 3 w w.heap.size A N.way.length N.way) (HO : Hid (∀ l ∈ N.way, LetterOk l)) (hl : LetterOk l) (hnm : StrOk name) (h : bigB N = false) (hn80 : N.way.length ≤ 80)
    (hs1 : l.fr.size + l.to.size + name.size ≤ 300) (hs2 : l.text.size ≤ 4100) :
    Calls Try.prog 5 #[.agg #[.slice A N.way.length c, .int .i64 N.sent, .int .i64 N.delivered, .int .i64 N.lost, .int .i64 N.doubled], .agg #[.string l.fr, .string l.to, .string l.text], .int .i64 i, .string name] w fun e w' => e = .returned (.bool true) ∧ Below w.heap.size w w' := by
  have HSA : Hid (∀ W, Below w.heap.size w W → SlR encL 3 W w.heap.size A N.way.length N.way) := Lib.hid (fun W hb => hS.below hb)
  clear hS
  obtain ⟨Ma, ea, hra⟩ : ∃ M e, sendF N l = (M, e) := ⟨_, _, rfl⟩
  obtain ⟨x, Mc, ec, hrc⟩ : ∃ x M e, stepF deliverF N i = (x, M, e) := ⟨_, _, _, rfl⟩
  obtain ⟨Mp, ep, hrp⟩ : ∃ M e, (stepF loseF N i).2 = (M, e) := ⟨_, _, rfl⟩
  obtain ⟨Ms, es, hrs⟩ : ∃ M e, (stepF doubleF N i).2 = (M, e) := ⟨_, _, rfl⟩
  have HRA := Lib.hid hra
  have HRC := Lib.hid hrc
  have HRP := Lib.hid hrp
  have HRS := Lib.hid hrs
  clear hra hrc hrp hrs
  go_enter Try.func5, Try.ntmps5
  go_wp2_with fail
  refine (big_any N A c _ ((HSA.out _ (by go_grown)).more (by simp; omega)) HO.out).mono ?_
  rintro e w1 ⟨rfl, hb1⟩
  rw [h]
  have HB1 : Hid (Below w.heap.size w w1) := Lib.hid (Below.trans (by go_grown) (hb1.mono (by simp; omega)))
  have HT4 : Hid (Blk w1 w.heap.size 25 #[.slice A N.way.length c, .int .i64 N.sent, .int .i64 N.delivered, .int .i64 N.lost, .int .i64 N.doubled]) := Lib.hid (((Blk.new w _ _).alloc _).below hb1 (by simp; omega))
  have HT5 : Hid (Blk w1 (w.heap.size + 1) 27 #[.string l.fr, .string l.to, .string l.text]) := Lib.hid ((Blk.new_at (by simp) _ _).below hb1 (by simp))
  have p0 := HT5.out.cells 0 _ rfl
  have p1 := HT5.out.cells 1 _ rfl
  have p2 := HT5.out.cells 2 _ rfl
  have n0 := HT4.out.cells 0 _ rfl
  have n1 := HT4.out.cells 1 _ rfl
  have n2 := HT4.out.cells 2 _ rfl
  have n3 := HT4.out.cells 3 _ rfl
  have n4 := HT4.out.cells 4 _ rfl
  simp only [List.getElem_toArray, List.getElem_cons_zero, List.getElem_cons_succ] at p0 p1 p2 n0 n1 n2 n3 n4
  clear hb1
  go_wp2_with fail
  clear p0 p1 p2 n0 n1 n2 n3 n4
  refine (own_any N A c w1 ((HSA.out _ HB1.out).more HB1.out.size) hn80).mono ?_
  rintro e w2 ⟨v, rfl, ⟨A9, c9, rfl, ho9⟩, hb2⟩
  have hlt5 := HT5.out.lt
  have hz2 := hb2.size
  have HB2 := Lib.hid (HB1.out.trans (hb2.mono HB1.out.size))
  have HK4 := Lib.hid (HT4.out.below hb2 HT4.out.lt)
  have HK5 := Lib.hid (HT5.out.below hb2 HT5.out.lt)
  have HO9 := Lib.hid ho9
  clear hb2 HB1 HT4 HT5 ho9
  go_upto_region 4 with (fail)
  have hT4 := HK4.out.alloc (.cells #[.slice A9 N.way.length c9, .int .i64 N.sent, .int .i64 N.delivered, .int .i64 N.lost, .int .i64 N.doubled] 25)
  have hT5 := HK5.out.alloc (.cells #[.slice A9 N.way.length c9, .int .i64 N.sent, .int .i64 N.delivered, .int .i64 N.lost, .int .i64 N.doubled] 25)
  have hT9 := Blk.new w2 25 #[.slice A9 N.way.length c9, .int .i64 N.sent, .int .i64 N.delivered, .int .i64 N.lost, .int .i64 N.doubled]
  have hBW : Below w.heap.size w (w2.alloc (.cells #[.slice A9 N.way.length c9, .int .i64 N.sent, .int .i64 N.delivered, .int .i64 N.lost, .int .i64 N.doubled] 25)) := HB2.out.alloc HB2.out.size _
  have hSO : SlR encL 3 (w2.alloc (.cells #[.slice A9 N.way.length c9, .int .i64 N.sent, .int .i64 N.delivered, .int .i64 N.lost, .int .i64 N.doubled] 25)) (w2.alloc (.cells #[.slice A9 N.way.length c9, .int .i64 N.sent, .int .i64 N.delivered, .int .i64 N.lost, .int .i64 N.doubled] 25)).heap.size A9 N.way.length N.way := SlR.of_own encL_len (World.ownsRow.alloc HO9.out _) rfl
  have hzW : (w2.alloc (.cells #[.slice A9 N.way.length c9, .int .i64 N.sent, .int .i64 N.delivered, .int .i64 N.lost, .int .i64 N.doubled] 25)).heap.size = w2.heap.size + 1 := by simp
  clear HK4 HK5 HO9 HB2
  generalize w2.alloc (.cells #[.slice A9 N.way.length c9, .int .i64 N.sent, .int .i64 N.delivered, .int .i64 N.lost, .int .i64 N.doubled] 25) = W0 at *
  have hq2 : w2.heap.size < W0.heap.size := by omega
  have hq5 : w.heap.size + 1 < W0.heap.size := by omega
  have hq4 : w.heap.size < W0.heap.size := by omega
  clear hzW hz2 hlt5
  have HT4 := Lib.hid hT4
  have HT5 := Lib.hid hT5
  have HT9 := Lib.hid hT9
  have HBW := Lib.hid hBW
  have HSN : Hid (∀ W, Below W0.heap.size W0 W → SlR encL 3 W W.heap.size A N.way.length N.way) := Lib.hid (fun W hb => ((HSA.out W0 hBW).more hBW.size |>.below hb).more hb.size)
  have HSO : Hid (∀ W, Below W0.heap.size W0 W → SlR encL 3 W W.heap.size A9 N.way.length N.way) := Lib.hid (fun W hb => (hSO.below hb).more hb.size)
  clear hT4 hT5 hT9 hBW hSO HSA
  have HB : Hid (Below W0.heap.size W0 W0) := Lib.hid (Below.refl _ _)
  have HX : Hid (Boxes W0 W0.heap.size []) := Lib.hid trivial
  have HY : Hid (LBoxes W0 []) := Lib.hid trivial
  have n0 := ((HT4.out).below HB.out (by omega)).cells 0 _ rfl
  have n1 := ((HT4.out).below HB.out (by omega)).cells 1 _ rfl
  have n2 := ((HT4.out).below HB.out (by omega)).cells 2 _ rfl
  have n3 := ((HT4.out).below HB.out (by omega)).cells 3 _ rfl
  have n4 := ((HT4.out).below HB.out (by omega)).cells 4 _ rfl
  have p0 := ((HT5.out).below HB.out (by omega)).cells 0 _ rfl
  have p1 := ((HT5.out).below HB.out (by omega)).cells 1 _ rfl
  have p2 := ((HT5.out).below HB.out (by omega)).cells 2 _ rfl
  simp only [List.getElem_toArray, List.getElem_cons_zero, List.getElem_cons_succ] at n0 n1 n2 n3 n4 p0 p1 p2
  go_wp2_with fail
  clear n0 n1 n2 n3 n4 p0 p1 p2
  refine (send_any N l A _ c _ (HSN.out _ HB.out)).mono ?_
  rintro e w10 ⟨v, rfl, ⟨A10, c10, rfl, ho⟩, hb⟩
  rw [HRA.out] at ho ⊢
  have hz := hb.size
  have hzB := HB.out.size
  have hB1 : Below W0.heap.size W0 w10 := HB.out.trans (hb.mono HB.out.size)
  have hz1 := hB1.size
  have ha1 : w.heap.size < w10.heap.size := by omega
  have ha2 : w.heap.size + 1 < w10.heap.size := by omega
  have ha3 : w2.heap.size < w10.heap.size := by omega
  have n0 := ((HT9.out).below hB1 (by omega)).cells 0 _ rfl
  have n1 := ((HT9.out).below hB1 (by omega)).cells 1 _ rfl
  have n2 := ((HT9.out).below hB1 (by omega)).cells 2 _ rfl
  have n3 := ((HT9.out).below hB1 (by omega)).cells 3 _ rfl
  have n4 := ((HT9.out).below hB1 (by omega)).cells 4 _ rfl
  have p0 := ((HT5.out).below hB1 (by omega)).cells 0 _ rfl
  have p1 := ((HT5.out).below hB1 (by omega)).cells 1 _ rfl
  have p2 := ((HT5.out).below hB1 (by omega)).cells 2 _ rfl
  simp only [List.getElem_toArray, List.getElem_cons_zero, List.getElem_cons_succ] at n0 n1 n2 n3 n4 p0 p1 p2
  have HHo := Lib.hid ho
  have HHb := Lib.hid hb
  have HHB1 := Lib.hid hB1
  clear ho hb hB1
  go_wp2_with fail
  clear n0 n1 n2 n3 n4 p0 p1 p2
  have hX2 := ((HX.out.below HHb.out).below ((Below.refl _ w10).alloc (Nat.le_refl _) (.cells #[.slice A10 Ma.way.length c10, .int .i64 Ma.sent, .int .i64 Ma.delivered, .int .i64 Ma.lost, .int .i64 Ma.doubled] 25))).cons (Blk.new _ _ _) (own_base (World.ownsRow.alloc HHo.out _) (by omega)) (by omega)
  have hY2 := (HY.out.below HHb.out).below ((Below.refl _ w10).alloc (Nat.le_refl _) (.cells #[.slice A10 Ma.way.length c10, .int .i64 Ma.sent, .int .i64 Ma.delivered, .int .i64 Ma.lost, .int .i64 Ma.doubled] 25))
  have hB2 : Below W0.heap.size W0 (w10.alloc (.cells #[.slice A10 Ma.way.length c10, .int .i64 Ma.sent, .int .i64 Ma.delivered, .int .i64 Ma.lost, .int .i64 Ma.doubled] 25)) := HHB1.out.alloc hz1 _
  clear HB HX HY HHo HHb HHB1 hz hzB hz1 ha1 ha2 ha3
  generalize hvv : w10.alloc (.cells #[.slice A10 Ma.way.length c10, .int .i64 Ma.sent, .int .i64 Ma.delivered, .int .i64 Ma.lost, .int .i64 Ma.doubled] 25) = v10 at *
  clear hvv
  have HB := Lib.hid hB2
  have HX := Lib.hid hX2
  have HY := Lib.hid hY2
  clear hB2 hX2 hY2
  refine (rsend_any N l A9 c9 _ (HSO.out _ HB.out) hn80 HO.out hl).mono ?_
  rintro e w11 ⟨v, rfl, ⟨A11, c11, rfl, ho⟩, hb⟩
  rw [HRA.out] at ho ⊢
  have hz := hb.size
  have hzB := HB.out.size
  have hB1 : Below W0.heap.size W0 w11 := HB.out.trans (hb.mono HB.out.size)
  have hz1 := hB1.size
  have ha1 : w.heap.size < w11.heap.size := by omega
  have ha2 : w.heap.size + 1 < w11.heap.size := by omega
  have ha3 : w2.heap.size < w11.heap.size := by omega
  have n0 := ((HT4.out).below hB1 (by omega)).cells 0 _ rfl
  have n1 := ((HT4.out).below hB1 (by omega)).cells 1 _ rfl
  have n2 := ((HT4.out).below hB1 (by omega)).cells 2 _ rfl
  have n3 := ((HT4.out).below hB1 (by omega)).cells 3 _ rfl
  have n4 := ((HT4.out).below hB1 (by omega)).cells 4 _ rfl
  simp only [List.getElem_toArray, List.getElem_cons_zero, List.getElem_cons_succ] at n0 n1 n2 n3 n4
  have HHo := Lib.hid ho
  have HHb := Lib.hid hb
  have HHB1 := Lib.hid hB1
  clear ho hb hB1
  go_wp2_with fail
  clear n0 n1 n2 n3 n4
  have hX2 := ((HX.out.below HHb.out).below ((Below.refl _ w11).alloc (Nat.le_refl _) (.cells #[.slice A11 Ma.way.length c11, .int .i64 Ma.sent, .int .i64 Ma.delivered, .int .i64 Ma.lost, .int .i64 Ma.doubled] 25))).cons (Blk.new _ _ _) (own_base (World.ownsRow.alloc HHo.out _) (by omega)) (by omega)
  have hY2 := (HY.out.below HHb.out).below ((Below.refl _ w11).alloc (Nat.le_refl _) (.cells #[.slice A11 Ma.way.length c11, .int .i64 Ma.sent, .int .i64 Ma.delivered, .int .i64 Ma.lost, .int .i64 Ma.doubled] 25))
  have hB2 : Below W0.heap.size W0 (w11.alloc (.cells #[.slice A11 Ma.way.length c11, .int .i64 Ma.sent, .int .i64 Ma.delivered, .int .i64 Ma.lost, .int .i64 Ma.doubled] 25)) := HHB1.out.alloc hz1 _
  clear HB HX HY HHo HHb HHB1 hz hzB hz1 ha1 ha2 ha3
  generalize hvv : w11.alloc (.cells #[.slice A11 Ma.way.length c11, .int .i64 Ma.sent, .int .i64 Ma.delivered, .int .i64 Ma.lost, .int .i64 Ma.doubled] 25) = v11 at *
  clear hvv
  have HB := Lib.hid hB2
  have HX := Lib.hid hX2
  have HY := Lib.hid hY2
  clear hB2 hX2 hY2
  refine (deliver_any N A _ c i _ (HSN.out _ HB.out)).mono ?_
  rintro e w12 ⟨v, rfl, ⟨A12, c12, rfl, ho⟩, hb⟩
  rw [HRC.out] at ho ⊢
  simp only [lv] at ho ⊢
  have hz := hb.size
  have hzB := HB.out.size
  have hB1 : Below W0.heap.size W0 w12 := HB.out.trans (hb.mono HB.out.size)
  have hz1 := hB1.size
  have ha1 : w.heap.size < w12.heap.size := by omega
  have ha2 : w.heap.size + 1 < w12.heap.size := by omega
  have ha3 : w2.heap.size < w12.heap.size := by omega
  have n0 := ((HT9.out).below hB1 (by omega)).cells 0 _ rfl
  have n1 := ((HT9.out).below hB1 (by omega)).cells 1 _ rfl
  have n2 := ((HT9.out).below hB1 (by omega)).cells 2 _ rfl
  have n3 := ((HT9.out).below hB1 (by omega)).cells 3 _ rfl
  have n4 := ((HT9.out).below hB1 (by omega)).cells 4 _ rfl
  simp only [List.getElem_toArray, List.getElem_cons_zero, List.getElem_cons_succ] at n0 n1 n2 n3 n4
  have HHo := Lib.hid ho
  have HHb := Lib.hid hb
  have HHB1 := Lib.hid hB1
  clear ho hb hB1
  go_wp2_with fail
  clear n0 n1 n2 n3 n4
  have hX2 := (((HX.out.below HHb.out).below ((Below.refl _ w12).alloc (Nat.le_refl _) (.cells #[.string x.fr, .string x.to, .string x.text] 27))).below ((Below.refl _ _).alloc (Nat.le_refl _) (.cells #[.slice A12 Mc.way.length c12, .int .i64 Mc.sent, .int .i64 Mc.delivered, .int .i64 Mc.lost, .int .i64 Mc.doubled] 25))).cons (Blk.new_at (g := w12.heap.size + 1) (by simp) _ _) (own_base (World.ownsRow.alloc (World.ownsRow.alloc HHo.out _) _) (by omega)) (by omega)
  have hY2 := (((HY.out.below HHb.out).below ((Below.refl _ w12).alloc (Nat.le_refl _) (.cells #[.string x.fr, .string x.to, .string x.text] 27))).below ((Below.refl _ _).alloc (Nat.le_refl _) (.cells #[.slice A12 Mc.way.length c12, .int .i64 Mc.sent, .int .i64 Mc.delivered, .int .i64 Mc.lost, .int .i64 Mc.doubled] 25))).cons ((Blk.new w12 27 #[.string x.fr, .string x.to, .string x.text]).alloc _)
  have hB2 : Below W0.heap.size W0 ((w12.alloc (.cells #[.string x.fr, .string x.to, .string x.text] 27)).alloc (.cells #[.slice A12 Mc.way.length c12, .int .i64 Mc.sent, .int .i64 Mc.delivered, .int .i64 Mc.lost, .int .i64 Mc.doubled] 25)) := (HHB1.out.alloc hz1 _).alloc (by simp; omega) _
  have hlt : w12.heap.size + 1 + 1 ≤ ((w12.alloc (.cells #[.string x.fr, .string x.to, .string x.text] 27)).alloc (.cells #[.slice A12 Mc.way.length c12, .int .i64 Mc.sent, .int .i64 Mc.delivered, .int .i64 Mc.lost, .int .i64 Mc.doubled] 25)).heap.size := by simp
  clear HB HX HY HHo HHb HHB1 hz hzB hz1 ha1 ha2 ha3
  generalize hvv : (w12.alloc (.cells #[.string x.fr, .string x.to, .string x.text] 27)).alloc (.cells #[.slice A12 Mc.way.length c12, .int .i64 Mc.sent, .int .i64 Mc.delivered, .int .i64 Mc.lost, .int .i64 Mc.doubled] 25) = v12 at *
  clear hvv
  have HB := Lib.hid hB2
  have HX := Lib.hid hX2
  have HY := Lib.hid hY2
  clear hB2 hX2 hY2 hlt
  refine (rdeliver_any N A9 c9 i _ (HSO.out _ HB.out) hn80 HO.out).mono ?_
  rintro e w13 ⟨v, rfl, ⟨A13, c13, rfl, ho⟩, hb⟩
  rw [HRC.out] at ho ⊢
  simp only [lv] at ho ⊢
  have hz := hb.size
  have hzB := HB.out.size
  have hB1 : Below W0.heap.size W0 w13 := HB.out.trans (hb.mono HB.out.size)
  have hz1 := hB1.size
  have ha1 : w.heap.size < w13.heap.size := by omega
  have ha2 : w.heap.size + 1 < w13.heap.size := by omega
  have ha3 : w2.heap.size < w13.heap.size := by omega
  have n0 := ((HT4.out).below hB1 (by omega)).cells 0 _ rfl
  have n1 := ((HT4.out).below hB1 (by omega)).cells 1 _ rfl
  have n2 := ((HT4.out).below hB1 (by omega)).cells 2 _ rfl
  have n3 := ((HT4.out).below hB1 (by omega)).cells 3 _ rfl
  have n4 := ((HT4.out).below hB1 (by omega)).cells 4 _ rfl
  simp only [List.getElem_toArray, List.getElem_cons_zero, List.getElem_cons_succ] at n0 n1 n2 n3 n4
  have HHo := Lib.hid ho
  have HHb := Lib.hid hb
  have HHB1 := Lib.hid hB1
  clear ho hb hB1
  go_wp2_with fail
  clear n0 n1 n2 n3 n4
  have hX2 := (((HX.out.below HHb.out).below ((Below.refl _ w13).alloc (Nat.le_refl _) (.cells #[.string x.fr, .string x.to, .string x.text] 27))).below ((Below.refl _ _).alloc (Nat.le_refl _) (.cells #[.slice A13 Mc.way.length c13, .int .i64 Mc.sent, .int .i64 Mc.delivered, .int .i64 Mc.lost, .int .i64 Mc.doubled] 25))).cons (Blk.new_at (g := w13.heap.size + 1) (by simp) _ _) (own_base (World.ownsRow.alloc (World.ownsRow.alloc HHo.out _) _) (by omega)) (by omega)
  have hY2 := (((HY.out.below HHb.out).below ((Below.refl _ w13).alloc (Nat.le_refl _) (.cells #[.string x.fr, .string x.to, .string x.text] 27))).below ((Below.refl _ _).alloc (Nat.le_refl _) (.cells #[.slice A13 Mc.way.length c13, .int .i64 Mc.sent, .int .i64 Mc.delivered, .int .i64 Mc.lost, .int .i64 Mc.doubled] 25))).cons ((Blk.new w13 27 #[.string x.fr, .string x.to, .string x.text]).alloc _)
  have hB2 : Below W0.heap.size W0 ((w13.alloc (.cells #[.string x.fr, .string x.to, .string x.text] 27)).alloc (.cells #[.slice A13 Mc.way.length c13, .int .i64 Mc.sent, .int .i64 Mc.delivered, .int .i64 Mc.lost, .int .i64 Mc.doubled] 25)) := (HHB1.out.alloc hz1 _).alloc (by simp; omega) _
  have hlt : w13.heap.size + 1 + 1 ≤ ((w13.alloc (.cells #[.string x.fr, .string x.to, .string x.text] 27)).alloc (.cells #[.slice A13 Mc.way.length c13, .int .i64 Mc.sent, .int .i64 Mc.delivered, .int .i64 Mc.lost, .int .i64 Mc.doubled] 25)).heap.size := by simp
  clear HB HX HY HHo HHb HHB1 hz hzB hz1 ha1 ha2 ha3
  generalize hvv : (w13.alloc (.cells #[.string x.fr, .string x.to, .string x.text] 27)).alloc (.cells #[.slice A13 Mc.way.length c13, .int .i64 Mc.sent, .int .i64 Mc.delivered, .int .i64 Mc.lost, .int .i64 Mc.doubled] 25) = v13 at *
  clear hvv
  have HB := Lib.hid hB2
  have HX := Lib.hid hX2
  have HY := Lib.hid hY2
  clear hB2 hX2 hY2 hlt
  refine (lose_any N A _ c i _ (HSN.out _ HB.out)).mono ?_
  rintro e w14 ⟨v, rfl, ⟨A14, c14, rfl, ho⟩, hb⟩
  rw [HRP.out] at ho ⊢
  have hz := hb.size
  have hzB := HB.out.size
  have hB1 : Below W0.heap.size W0 w14 := HB.out.trans (hb.mono HB.out.size)
  have hz1 := hB1.size
  have ha1 : w.heap.size < w14.heap.size := by omega
  have ha2 : w.heap.size + 1 < w14.heap.size := by omega
  have ha3 : w2.heap.size < w14.heap.size := by omega
  have n0 := ((HT9.out).below hB1 (by omega)).cells 0 _ rfl
  have n1 := ((HT9.out).below hB1 (by omega)).cells 1 _ rfl
  have n2 := ((HT9.out).below hB1 (by omega)).cells 2 _ rfl
  have n3 := ((HT9.out).below hB1 (by omega)).cells 3 _ rfl
  have n4 := ((HT9.out).below hB1 (by omega)).cells 4 _ rfl
  simp only [List.getElem_toArray, List.getElem_cons_zero, List.getElem_cons_succ] at n0 n1 n2 n3 n4
  have HHo := Lib.hid ho
  have HHb := Lib.hid hb
  have HHB1 := Lib.hid hB1
  clear ho hb hB1
  go_wp2_with fail
  clear n0 n1 n2 n3 n4
  have hX2 := ((HX.out.below HHb.out).below ((Below.refl _ w14).alloc (Nat.le_refl _) (.cells #[.slice A14 Mp.way.length c14, .int .i64 Mp.sent, .int .i64 Mp.delivered, .int .i64 Mp.lost, .int .i64 Mp.doubled] 25))).cons (Blk.new _ _ _) (own_base (World.ownsRow.alloc HHo.out _) (by omega)) (by omega)
  have hY2 := (HY.out.below HHb.out).below ((Below.refl _ w14).alloc (Nat.le_refl _) (.cells #[.slice A14 Mp.way.length c14, .int .i64 Mp.sent, .int .i64 Mp.delivered, .int .i64 Mp.lost, .int .i64 Mp.doubled] 25))
  have hB2 : Below W0.heap.size W0 (w14.alloc (.cells #[.slice A14 Mp.way.length c14, .int .i64 Mp.sent, .int .i64 Mp.delivered, .int .i64 Mp.lost, .int .i64 Mp.doubled] 25)) := HHB1.out.alloc hz1 _
  clear HB HX HY HHo HHb HHB1 hz hzB hz1 ha1 ha2 ha3
  generalize hvv : w14.alloc (.cells #[.slice A14 Mp.way.length c14, .int .i64 Mp.sent, .int .i64 Mp.delivered, .int .i64 Mp.lost, .int .i64 Mp.doubled] 25) = v14 at *
  clear hvv
  have HB := Lib.hid hB2
  have HX := Lib.hid hX2
  have HY := Lib.hid hY2
  clear hB2 hX2 hY2
  refine (rlose_any N A9 c9 i _ (HSO.out _ HB.out) hn80 HO.out).mono ?_
  rintro e w15 ⟨v, rfl, ⟨A15, c15, rfl, ho⟩, hb⟩
  rw [HRP.out] at ho ⊢
  have hz := hb.size
  have hzB := HB.out.size
  have hB1 : Below W0.heap.size W0 w15 := HB.out.trans (hb.mono HB.out.size)
  have hz1 := hB1.size
  have ha1 : w.heap.size < w15.heap.size := by omega
  have ha2 : w.heap.size + 1 < w15.heap.size := by omega
  have ha3 : w2.heap.size < w15.heap.size := by omega
  have n0 := ((HT4.out).below hB1 (by omega)).cells 0 _ rfl
  have n1 := ((HT4.out).below hB1 (by omega)).cells 1 _ rfl
  have n2 := ((HT4.out).below hB1 (by omega)).cells 2 _ rfl
  have n3 := ((HT4.out).below hB1 (by omega)).cells 3 _ rfl
  have n4 := ((HT4.out).below hB1 (by omega)).cells 4 _ rfl
  simp only [List.getElem_toArray, List.getElem_cons_zero, List.getElem_cons_succ] at n0 n1 n2 n3 n4
  have HHo := Lib.hid ho
  have HHb := Lib.hid hb
  have HHB1 := Lib.hid hB1
  clear ho hb hB1
  go_wp2_with fail
  clear n0 n1 n2 n3 n4
  have hX2 := ((HX.out.below HHb.out).below ((Below.refl _ w15).alloc (Nat.le_refl _) (.cells #[.slice A15 Mp.way.length c15, .int .i64 Mp.sent, .int .i64 Mp.delivered, .int .i64 Mp.lost, .int .i64 Mp.doubled] 25))).cons (Blk.new _ _ _) (own_base (World.ownsRow.alloc HHo.out _) (by omega)) (by omega)
  have hY2 := (HY.out.below HHb.out).below ((Below.refl _ w15).alloc (Nat.le_refl _) (.cells #[.slice A15 Mp.way.length c15, .int .i64 Mp.sent, .int .i64 Mp.delivered, .int .i64 Mp.lost, .int .i64 Mp.doubled] 25))
  have hB2 : Below W0.heap.size W0 (w15.alloc (.cells #[.slice A15 Mp.way.length c15, .int .i64 Mp.sent, .int .i64 Mp.delivered, .int .i64 Mp.lost, .int .i64 Mp.doubled] 25)) := HHB1.out.alloc hz1 _
  clear HB HX HY HHo HHb HHB1 hz hzB hz1 ha1 ha2 ha3
  generalize hvv : w15.alloc (.cells #[.slice A15 Mp.way.length c15, .int .i64 Mp.sent, .int .i64 Mp.delivered, .int .i64 Mp.lost, .int .i64 Mp.doubled] 25) = v15 at *
  clear hvv
  have HB := Lib.hid hB2
  have HX := Lib.hid hX2
  have HY := Lib.hid hY2
  clear hB2 hX2 hY2
  refine (double_any N A _ c i _ (HSN.out _ HB.out)).mono ?_
  rintro e w16 ⟨v, rfl, ⟨A16, c16, rfl, ho⟩, hb⟩
  rw [HRS.out] at ho ⊢
  have hz := hb.size
  have hzB := HB.out.size
  have hB1 : Below W0.heap.size W0 w16 := HB.out.trans (hb.mono HB.out.size)
  have hz1 := hB1.size
  have ha1 : w.heap.size < w16.heap.size := by omega
  have ha2 : w.heap.size + 1 < w16.heap.size := by omega
  have ha3 : w2.heap.size < w16.heap.size := by omega
  have n0 := ((HT9.out).below hB1 (by omega)).cells 0 _ rfl
  have n1 := ((HT9.out).below hB1 (by omega)).cells 1 _ rfl
  have n2 := ((HT9.out).below hB1 (by omega)).cells 2 _ rfl
  have n3 := ((HT9.out).below hB1 (by omega)).cells 3 _ rfl
  have n4 := ((HT9.out).below hB1 (by omega)).cells 4 _ rfl
  simp only [List.getElem_toArray, List.getElem_cons_zero, List.getElem_cons_succ] at n0 n1 n2 n3 n4
  have HHo := Lib.hid ho
  have HHb := Lib.hid hb
  have HHB1 := Lib.hid hB1
  clear ho hb hB1
  go_wp2_with fail
  clear n0 n1 n2 n3 n4
  have hX2 := ((HX.out.below HHb.out).below ((Below.refl _ w16).alloc (Nat.le_refl _) (.cells #[.slice A16 Ms.way.length c16, .int .i64 Ms.sent, .int .i64 Ms.delivered, .int .i64 Ms.lost, .int .i64 Ms.doubled] 25))).cons (Blk.new _ _ _) (own_base (World.ownsRow.alloc HHo.out _) (by omega)) (by omega)
  have hY2 := (HY.out.below HHb.out).below ((Below.refl _ w16).alloc (Nat.le_refl _) (.cells #[.slice A16 Ms.way.length c16, .int .i64 Ms.sent, .int .i64 Ms.delivered, .int .i64 Ms.lost, .int .i64 Ms.doubled] 25))
  have hB2 : Below W0.heap.size W0 (w16.alloc (.cells #[.slice A16 Ms.way.length c16, .int .i64 Ms.sent, .int .i64 Ms.delivered, .int .i64 Ms.lost, .int .i64 Ms.doubled] 25)) := HHB1.out.alloc hz1 _
  clear HB HX HY HHo HHb HHB1 hz hzB hz1 ha1 ha2 ha3
  generalize hvv : w16.alloc (.cells #[.slice A16 Ms.way.length c16, .int .i64 Ms.sent, .int .i64 Ms.delivered, .int .i64 Ms.lost, .int .i64 Ms.doubled] 25) = v16 at *
  clear hvv
  have HB := Lib.hid hB2
  have HX := Lib.hid hX2
  have HY := Lib.hid hY2
  clear hB2 hX2 hY2
  refine (rdouble_any N A9 c9 i _ (HSO.out _ HB.out) hn80 HO.out).mono ?_
  rintro e w17 ⟨v, rfl, ⟨A17, c17, rfl, ho⟩, hb⟩
  rw [HRS.out] at ho ⊢
  have hz := hb.size
  have hzB := HB.out.size
  have hB1 : Below W0.heap.size W0 w17 := HB.out.trans (hb.mono HB.out.size)
  have hz1 := hB1.size
  have ha1 : w.heap.size < w17.heap.size := by omega
  have ha2 : w.heap.size + 1 < w17.heap.size := by omega
  have ha3 : w2.heap.size < w17.heap.size := by omega
  have m0 := (((HX.out.2.2.2.2.2.2.1.1).below hb (HX.out.2.2.2.2.2.2.1.1).lt)).cells 0 _ rfl
  have m1 := (((HX.out.2.2.2.2.2.2.1.1).below hb (HX.out.2.2.2.2.2.2.1.1).lt)).cells 1 _ rfl
  have m2 := (((HX.out.2.2.2.2.2.2.1.1).below hb (HX.out.2.2.2.2.2.2.1.1).lt)).cells 2 _ rfl
  have m3 := (((HX.out.2.2.2.2.2.2.1.1).below hb (HX.out.2.2.2.2.2.2.1.1).lt)).cells 3 _ rfl
  have m4 := (((HX.out.2.2.2.2.2.2.1.1).below hb (HX.out.2.2.2.2.2.2.1.1).lt)).cells 4 _ rfl
  have n0 := (((HX.out.2.2.2.2.2.1.1).below hb (HX.out.2.2.2.2.2.1.1).lt)).cells 0 _ rfl
  have n1 := (((HX.out.2.2.2.2.2.1.1).below hb (HX.out.2.2.2.2.2.1.1).lt)).cells 1 _ rfl
  have n2 := (((HX.out.2.2.2.2.2.1.1).below hb (HX.out.2.2.2.2.2.1.1).lt)).cells 2 _ rfl
  have n3 := (((HX.out.2.2.2.2.2.1.1).below hb (HX.out.2.2.2.2.2.1.1).lt)).cells 3 _ rfl
  have n4 := (((HX.out.2.2.2.2.2.1.1).below hb (HX.out.2.2.2.2.2.1.1).lt)).cells 4 _ rfl
  simp only [List.getElem_toArray, List.getElem_cons_zero, List.getElem_cons_succ] at m0 m1 m2 m3 m4 n0 n1 n2 n3 n4
  have ha4 : w10.heap.size < w17.heap.size := by have := (HX.out.2.2.2.2.2.2.1.1).lt; omega
  have ha5 : w11.heap.size < w17.heap.size := by have := (HX.out.2.2.2.2.2.1.1).lt; omega
  have HHo := Lib.hid ho
  have HHb := Lib.hid hb
  have HHB1 := Lib.hid hB1
  clear ho hb hB1
  go_wp2_with fail
  clear m0 m1 m2 m3 m4 n0 n1 n2 n3 n4
  have hX2 := ((HX.out.below HHb.out).below ((Below.refl _ w17).alloc (Nat.le_refl _) (.cells #[.slice A17 Ms.way.length c17, .int .i64 Ms.sent, .int .i64 Ms.delivered, .int .i64 Ms.lost, .int .i64 Ms.doubled] 25))).cons (Blk.new _ _ _) (own_base (World.ownsRow.alloc HHo.out _) (by omega)) (by omega)
  have hY2 := (HY.out.below HHb.out).below ((Below.refl _ w17).alloc (Nat.le_refl _) (.cells #[.slice A17 Ms.way.length c17, .int .i64 Ms.sent, .int .i64 Ms.delivered, .int .i64 Ms.lost, .int .i64 Ms.doubled] 25))
  have hB2 : Below W0.heap.size W0 (w17.alloc (.cells #[.slice A17 Ms.way.length c17, .int .i64 Ms.sent, .int .i64 Ms.delivered, .int .i64 Ms.lost, .int .i64 Ms.doubled] 25)) := HHB1.out.alloc hz1 _
  clear HB HX HY HHo HHb HHB1 hz hzB hz1 ha1 ha2 ha3
  generalize hvv : w17.alloc (.cells #[.slice A17 Ms.way.length c17, .int .i64 Ms.sent, .int .i64 Ms.delivered, .int .i64 Ms.lost, .int .i64 Ms.doubled] 25) = v17 at *
  clear hvv
  have HB := Lib.hid hB2
  have HX := Lib.hid hX2
  have HY := Lib.hid hY2
  clear hB2 hX2 hY2
  have ht1 : (ea == ea) = true := by simp
  have ht2 : (ec == ec) = true := by simp
  have ht3 : (ep == ep) = true := by simp
  have ht4 : (es == es) = true := by simp
  have he := eql_same x
  refine (rsame_any Ma A10 A11 c10 c11 v17 (SlR.of_own encL_len (HX.out.2.2.2.2.2.2.2.1.2.1) rfl) (SlR.of_own encL_len (HX.out.2.2.2.2.2.2.1.2.1) rfl) (by have := send_len N l; rw [HRA.out] at this; simp only at this; omega)).mono ?_
  rintro e u0 ⟨rfl, hb⟩
  have HBn := Lib.hid (HB.out.trans (hb.mono HB.out.size))
  have HXn := Lib.hid (HX.out.below hb)
  have HYn := Lib.hid (HY.out.below hb)
  clear hb HB HX HY
  have HB := HBn
  have HX := HXn
  have HY := HYn
  clear HBn HXn HYn
  have m0 := (HX.out.2.2.2.2.2.1.1).cells 0 _ rfl
  have m1 := (HX.out.2.2.2.2.2.1.1).cells 1 _ rfl
  have m2 := (HX.out.2.2.2.2.2.1.1).cells 2 _ rfl
  have m3 := (HX.out.2.2.2.2.2.1.1).cells 3 _ rfl
  have m4 := (HX.out.2.2.2.2.2.1.1).cells 4 _ rfl
  have n0 := (HX.out.2.2.2.2.1.1).cells 0 _ rfl
  have n1 := (HX.out.2.2.2.2.1.1).cells 1 _ rfl
  have n2 := (HX.out.2.2.2.2.1.1).cells 2 _ rfl
  have n3 := (HX.out.2.2.2.2.1.1).cells 3 _ rfl
  have n4 := (HX.out.2.2.2.2.1.1).cells 4 _ rfl
  have p0 := (HY.out.2.1).cells 0 _ rfl
  have p1 := (HY.out.2.1).cells 1 _ rfl
  have p2 := (HY.out.2.1).cells 2 _ rfl
  have q0 := (HY.out.1).cells 0 _ rfl
  have q1 := (HY.out.1).cells 1 _ rfl
  have q2 := (HY.out.1).cells 2 _ rfl
  simp only [List.getElem_toArray, List.getElem_cons_zero, List.getElem_cons_succ] at m0 m1 m2 m3 m4 n0 n1 n2 n3 n4 p0 p1 p2 q0 q1 q2
  go_wp2_with fail
  clear m0 m1 m2 m3 m4 n0 n1 n2 n3 n4 p0 p1 p2 q0 q1 q2
  refine (rsame_any Mc A12 A13 c12 c13 u0 (SlR.of_own encL_len (HX.out.2.2.2.2.2.1.2.1) rfl) (SlR.of_own encL_len (HX.out.2.2.2.2.1.2.1) rfl) (by have := del_len N i; rw [HRC.out] at this; simp only at this; omega)).mono ?_
  rintro e u1 ⟨rfl, hb⟩
  have HBn := Lib.hid (HB.out.trans (hb.mono HB.out.size))
  have HXn := Lib.hid (HX.out.below hb)
  have HYn := Lib.hid (HY.out.below hb)
  clear hb HB HX HY
  have HB := HBn
  have HX := HXn
  have HY := HYn
  clear HBn HXn HYn
  have m0 := (HX.out.2.2.2.1.1).cells 0 _ rfl
  have m1 := (HX.out.2.2.2.1.1).cells 1 _ rfl
  have m2 := (HX.out.2.2.2.1.1).cells 2 _ rfl
  have m3 := (HX.out.2.2.2.1.1).cells 3 _ rfl
  have m4 := (HX.out.2.2.2.1.1).cells 4 _ rfl
  have n0 := (HX.out.2.2.1.1).cells 0 _ rfl
  have n1 := (HX.out.2.2.1.1).cells 1 _ rfl
  have n2 := (HX.out.2.2.1.1).cells 2 _ rfl
  have n3 := (HX.out.2.2.1.1).cells 3 _ rfl
  have n4 := (HX.out.2.2.1.1).cells 4 _ rfl
  simp only [List.getElem_toArray, List.getElem_cons_zero, List.getElem_cons_succ] at m0 m1 m2 m3 m4 n0 n1 n2 n3 n4
  go_wp2_with fail
  clear m0 m1 m2 m3 m4 n0 n1 n2 n3 n4
  refine (rsame_any Mp A14 A15 c14 c15 u1 (SlR.of_own encL_len (HX.out.2.2.2.1.2.1) rfl) (SlR.of_own encL_len (HX.out.2.2.1.2.1) rfl) (by have := lose_len N i; rw [HRP.out] at this; simp only at this; omega)).mono ?_
  rintro e u2 ⟨rfl, hb⟩
  have HBn := Lib.hid (HB.out.trans (hb.mono HB.out.size))
  have HXn := Lib.hid (HX.out.below hb)
  have HYn := Lib.hid (HY.out.below hb)
  clear hb HB HX HY
  have HB := HBn
  have HX := HXn
  have HY := HYn
  clear HBn HXn HYn
  have m0 := (HX.out.2.1.1).cells 0 _ rfl
  have m1 := (HX.out.2.1.1).cells 1 _ rfl
  have m2 := (HX.out.2.1.1).cells 2 _ rfl
  have m3 := (HX.out.2.1.1).cells 3 _ rfl
  have m4 := (HX.out.2.1.1).cells 4 _ rfl
  have n0 := (HX.out.1.1).cells 0 _ rfl
  have n1 := (HX.out.1.1).cells 1 _ rfl
  have n2 := (HX.out.1.1).cells 2 _ rfl
  have n3 := (HX.out.1.1).cells 3 _ rfl
  have n4 := (HX.out.1.1).cells 4 _ rfl
  simp only [List.getElem_toArray, List.getElem_cons_zero, List.getElem_cons_succ] at m0 m1 m2 m3 m4 n0 n1 n2 n3 n4
  go_wp2_with fail
  clear m0 m1 m2 m3 m4 n0 n1 n2 n3 n4
  refine (rsame_any Ms A16 A17 c16 c17 u2 (SlR.of_own encL_len (HX.out.2.1.2.1) rfl) (SlR.of_own encL_len (HX.out.1.2.1) rfl) (by have := dbl_len N i; rw [HRS.out] at this; simp only at this; omega)).mono ?_
  rintro e u3 ⟨rfl, hb⟩
  have HBn := Lib.hid (HB.out.trans (hb.mono HB.out.size))
  have HXn := Lib.hid (HX.out.below hb)
  have HYn := Lib.hid (HY.out.below hb)
  clear hb HB HX HY
  have HB := HBn
  have HX := HXn
  have HY := HYn
  clear HBn HXn HYn
  clear ht1 ht2 ht3 ht4 he
  have HSm : Hid (SmSt W0 w10.heap.size Ma A10 c10 (w12.heap.size + 1) Mc A12 c12 u3) := Lib.hid ⟨HB.out, HX.out.2.2.2.2.2.2.2.1.1, HX.out.2.2.2.2.2.1.1, rowOk_own HX.out.2.2.2.2.2.2.2.1.2.1, rowOk_own HX.out.2.2.2.2.2.1.2.1⟩
  have hla := send_len N l
  rw [HRA.out] at hla
  simp only at hla
  have hlc := del_len N i
  rw [HRC.out] at hlc
  simp only at hlc
  clear HX HY HB
  go_wp2_with fail
  go_loopw [29] (fun iv wr => ∃ k : Nat, k ≤ Ma.way.length ∧ iv = .int .i64 k ∧ Hid (SmSt W0 w10.heap.size Ma A10 c10 (w12.heap.size + 1) Mc A12 c12 wr)) (fun iv _ => Ma.way.length - (intOf iv).toNat)
  case atStart => exact ⟨0, Nat.zero_le _, rfl, HSm⟩
  case round =>
    clear HSm
    obtain ⟨k, hk, rfl, HSr⟩ := hrel
    have m0 := HSr.out.2.1.cells 0 _ rfl
    simp only [List.getElem_toArray, List.getElem_cons_zero] at m0
    by_cases hlt : k < Ma.way.length
    · obtain ⟨g, cs, rfl, hg, hbk, hcs⟩ := (HSr.out.2.2.2.1).resolve_left (by omega)
      have c0 := hbk.cells (k * 3 + 2) cs[k * 3 + 2] (by rw [Array.getElem?_eq_getElem])
      have cf := hbk.frozen
      have HN := Lib.hid (smst_set HSr.out hbk hg (k * 3 + 2) (.string ⟨#[115, 109, 117, 100, 103, 101]⟩))
      clear hbk
      go_wp2_with fail
      go_roundw
      case rel => exact ⟨k + 1, by omega, by go_num, HN⟩
      case measure => simp [intOf]; omega
    · obtain rfl : k = Ma.way.length := by omega
      have HS1 := HSr
      obtain ⟨v1, hv1⟩ : ∃ W : World, W = wr := ⟨wr, rfl⟩
      go_wp2_with fail
      clear m0
      go_loopw [30] (fun iv wr => ∃ k : Nat, k ≤ Mc.way.length ∧ iv = .int .i64 k ∧ Hid (SmSt W0 w10.heap.size Ma A10 c10 (w12.heap.size + 1) Mc A12 c12 wr)) (fun iv _ => Mc.way.length - (intOf iv).toNat)
      case atStart => exact ⟨0, Nat.zero_le _, rfl, HS1⟩
      case round =>
        clear HS1
        obtain ⟨k, hk, rfl, HSr⟩ := hrel
        have m0 := HSr.out.2.2.1.cells 0 _ rfl
        simp only [List.getElem_toArray, List.getElem_cons_zero] at m0
        by_cases hlt : k < Mc.way.length
        · obtain ⟨g, cs, rfl, hg, hbk, hcs⟩ := (HSr.out.2.2.2.2).resolve_left (by omega)
          have c0 := hbk.cells (k * 3 + 2) cs[k * 3 + 2] (by rw [Array.getElem?_eq_getElem])
          have cf := hbk.frozen
          have HN := Lib.hid (smst_set HSr.out hbk hg (k * 3 + 2) (.string ⟨#[115, 109, 117, 100, 103, 101]⟩))
          clear hbk
          go_wp2_with fail
          go_roundw
          case rel => exact ⟨k + 1, by omega, by go_num, HN⟩
          case measure => simp [intOf]; omega
        · obtain rfl : k = Mc.way.length := by omega
          have HB0 := Lib.hid HSr.out.1
          go_wp2_with fail
          clear HSr m0
          have HSS : Hid (∀ W, Below W0.heap.size W0 W → (fun wz => wz.cell? ⟨w.heap.size, 0, none⟩ = some (.slice A N.way.length c) ∧ wz.cell? ⟨w.heap.size, 1, none⟩ = some (.int .i64 N.sent) ∧ wz.cell? ⟨w.heap.size, 2, none⟩ = some (.int .i64 N.delivered) ∧ wz.cell? ⟨w.heap.size, 3, none⟩ = some (.int .i64 N.lost) ∧ wz.cell? ⟨w.heap.size, 4, none⟩ = some (.int .i64 N.doubled) ∧ wz.cell? ⟨w2.heap.size, 0, none⟩ = some (.slice A9 N.way.length c9) ∧ wz.cell? ⟨w2.heap.size, 1, none⟩ = some (.int .i64 N.sent) ∧ wz.cell? ⟨w2.heap.size, 2, none⟩ = some (.int .i64 N.delivered) ∧ wz.cell? ⟨w2.heap.size, 3, none⟩ = some (.int .i64 N.lost) ∧ wz.cell? ⟨w2.heap.size, 4, none⟩ = some (.int .i64 N.doubled)) W) := Lib.hid (fun W hb => by
            have h4 := HT4.out.below hb hq4
            have h9 := HT9.out.below hb hq2
            exact ⟨h4.cells 0 _ rfl, h4.cells 1 _ rfl, h4.cells 2 _ rfl, h4.cells 3 _ rfl, h4.cells 4 _ rfl, h9.cells 0 _ rfl, h9.cells 1 _ rfl, h9.cells 2 _ rfl, h9.cells 3 _ rfl, h9.cells 4 _ rfl⟩)
          have hs0 := HSS.out _ HB0.out
          simp only at hs0
          obtain ⟨n0, n1, n2, n3, n4, o0, o1, o2, o3, o4⟩ := hs0
          go_region_held3 (fun wz => wz.cell? ⟨w.heap.size, 0, none⟩ = some (.slice A N.way.length c) ∧ wz.cell? ⟨w.heap.size, 1, none⟩ = some (.int .i64 N.sent) ∧ wz.cell? ⟨w.heap.size, 2, none⟩ = some (.int .i64 N.delivered) ∧ wz.cell? ⟨w.heap.size, 3, none⟩ = some (.int .i64 N.lost) ∧ wz.cell? ⟨w.heap.size, 4, none⟩ = some (.int .i64 N.doubled) ∧ wz.cell? ⟨w2.heap.size, 0, none⟩ = some (.slice A9 N.way.length c9) ∧ wz.cell? ⟨w2.heap.size, 1, none⟩ = some (.int .i64 N.sent) ∧ wz.cell? ⟨w2.heap.size, 2, none⟩ = some (.int .i64 N.delivered) ∧ wz.cell? ⟨w2.heap.size, 3, none⟩ = some (.int .i64 N.lost) ∧ wz.cell? ⟨w2.heap.size, 4, none⟩ = some (.int .i64 N.doubled))
            (first | assumption | go_keep)
            (first
              | (go_at_call 8; refine (nets_any _).mono ?_; rintro e x0 ⟨rfl, hx0⟩; have HC0 : Hid (Below W0.heap.size W0 x0) := Lib.hid (by first | exact bel_next HB0.out hx0 | exact bel_next HB0.out (bel_one hx0)); have hsx0 := HSS.out _ HC0.out; (try simp only at hsx0))
              | (go_at_call 22; refine (rsame_any N A A9 c c9 _ (by first | exact HSN.out _ HC0.out | exact HSN.out _ (bel_drew HC0.out)) (by first | exact HSO.out _ HC0.out | exact HSO.out _ (bel_drew HC0.out)) (by omega)).mono ?_; rintro e x1 ⟨rfl, hx1⟩; have HC1 : Hid (Below W0.heap.size W0 x1) := Lib.hid (by first | exact bel_next HC0.out hx1 | exact bel_next HC0.out (bel_one hx1)); have hsx1 := HSS.out _ HC1.out; (try simp only at hsx1))
              | (go_at_call 11; refine (check_any N A _ c _ (by first | exact HSN.out _ HC1.out | exact HSN.out _ (bel_drew HC1.out))).mono ?_; rintro e x2 ⟨rfl, hx2⟩; have HC2 : Hid (Below W0.heap.size W0 x2) := Lib.hid (by first | exact bel_next HC1.out hx2 | exact bel_next HC1.out (bel_one hx2)); have hsx2 := HSS.out _ HC2.out; (try simp only at hsx2))
              | (go_at_call 23; refine (rcheck_any N A9 c9 _ (by first | exact HSO.out _ HC2.out | exact HSO.out _ (bel_drew HC2.out)) hn80 HO.out).mono ?_; rintro e x3 ⟨rfl, hx3⟩; have HC3 : Hid (Below W0.heap.size W0 x3) := Lib.hid (by first | exact bel_next HC2.out hx3 | exact bel_next HC2.out (bel_one hx3)); have hsx3 := HSS.out _ HC3.out; (try simp only at hsx3))
              | (go_at_call 25; refine (for_any N name A c _ (by first | exact HSN.out _ HC3.out | exact HSN.out _ (bel_drew HC3.out))).mono ?_; rintro e x4 ⟨hx4, A4, c4, rfl, HR4⟩; have HC4 : Hid (Below W0.heap.size W0 x4) := Lib.hid (by first | exact bel_next HC3.out hx4 | exact bel_next HC3.out (bel_one hx4)); have hsx4 := HSS.out _ HC4.out; (try simp only at hsx4); have HU4 : Hid (SlR encNu 1 x4 x4.heap.size A4 (forV N name).length (forV N name)) := Lib.hid (SlR.of_own encNu_len HR4.out rfl))
              | (go_at_call 26; refine (rfor_any N name A9 c9 _ (by first | exact HSO.out _ HC4.out | exact HSO.out _ (bel_drew HC4.out)) hn80 HO.out).mono ?_; rintro e x5 ⟨hx5, A5, c5, rfl, HR5⟩; have HC5 : Hid (Below W0.heap.size W0 x5) := Lib.hid (by first | exact bel_next HC4.out hx5 | exact bel_next HC4.out (bel_one hx5)); have hsx5 := HSS.out _ HC5.out; (try simp only at hsx5); have HU5 : Hid (SlR encNu 1 x5 x5.heap.size A5 (forV N name).length (forV N name)) := Lib.hid (SlR.of_own encNu_len HR5.out rfl); have hy5 : Below x4.heap.size x4 x5 := (by first | exact hx5 | exact bel_one hx5); have HU6 := Lib.hid ((HU4.out.below hy5).more hy5.size))
              | (go_at_call 24; refine (ints_like (forV N name) A4 A5 c4 c5 _ HU6.out HU5.out (forV_len N name hn80)).mono ?_; rintro e x6 ⟨rfl, hx6⟩; have HC6 : Hid (Below W0.heap.size W0 x6) := Lib.hid (by first | exact bel_next HC5.out hx6 | exact bel_next HC5.out (bel_one hx6)); have hsx6 := HSS.out _ HC6.out; (try simp only at hsx6)))
          all_goals go_wp2_with (with_reducible refine end_at ?_)
          all_goals
            refine end_ret (results_tmp rfl _ _ _) rfl ⟨rfl, ?_⟩
            have hfin := HBW.out.trans (HC6.out.mono HBW.out.size)
            first | exact hfin | exact hfin.drew | exact below_drewN hfin _ | go_grown
end Go.Proofs.Ytojabnaabgbclaa
