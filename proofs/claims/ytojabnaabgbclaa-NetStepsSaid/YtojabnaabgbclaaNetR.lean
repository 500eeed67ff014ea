/- net.For. -/
import Derived.Test.YtojabnaabgbclaaNetQ
set_option linter.unusedVariables false
set_option linter.unusedSimpArgs false
namespace Go.Proofs.Ytojabnaabgbclaa
open Go.RowKit Go.Shelf Go.Conc
attribute [local go_sem] Oper.semAt_some
/-- the places, ahead of k, of letters to a name -/
def forTo (L : List Letter) (name : ByteArray) (k : Nat) : List Nat := (List.range k).filter (fun i => decide ((L.getD i noLetter).to = name))
theorem forTo_yes {L : List Letter} {name : ByteArray} {k : Nat} {x : Letter} (h : L[k]? = some x) (hx : x.to = name) : forTo L name (k + 1) = forTo L name k ++ [k] := by
  have : (L.getD k noLetter).to = name := by rw [List.getD_eq_getElem?_getD, h]; exact hx
  unfold forTo
  rw [List.range_succ, List.filter_append]
  congr 1
  rw [List.filter_cons_of_pos (by rw [decide_eq_true_eq]; exact this)]
  rfl
theorem forTo_no {L : List Letter} {name : ByteArray} {k : Nat} {x : Letter} (h : L[k]? = some x) (hx : x.to ≠ name) : forTo L name (k + 1) = forTo L name k := by
  have : (L.getD k noLetter).to ≠ name := by rw [List.getD_eq_getElem?_getD, h]; exact hx
  unfold forTo
  rw [List.range_succ, List.filter_append, List.filter_cons_of_neg (by rw [decide_eq_true_eq]; exact this), List.filter_nil, List.append_nil]
theorem forTo_len (L : List Letter) (name : ByteArray) (k : Nat) : (forTo L name k).length ≤ k := by
  have := List.length_filter_le (fun i => decide ((L.getD i noLetter).to = name)) (List.range k)
  simpa [forTo] using this
def forV (N : Net) (name : ByteArray) : List Nat := if checkB N = true then forTo N.way name N.way.length else []
def encNu (i : Nat) : List Value := [numV i]
theorem encNu_len (i : Nat) : (encNu i).length = 1 := rfl
theorem encNu_one (i : Nat) : ∀ u ∈ encNu i, u.oneCell' = true := by intro u hu; simp [encNu, numV] at hu; subst hu; rfl
theorem int_info : (Try.prog.info? 3).map (fun i => (i.zero, i.size, i.bytes)) = some (some (.int .i64 0), 1, 8) := by kernel_rfl
def NuRow (w : World) (base : Nat) (v : Value) (X : List Nat) : Prop := ORow 3 encNu 1 w base v X
theorem mkchan (w : World) : (Instr.makeChan 63 (.int .i64 60)).run Try.prog w = .ok (.chan (some w.heap.size)) (w.alloc (.chan 60 #[] false 0 0 false)) := by
  obtain ⟨i0, hi0, _, _, hz2⟩ := info_parts int_info
  have := run_makeChan (P := Try.prog) (w := w) Try.underlying63 hi0 .i64 60 (by omega) (by rw [hz2]; omega)
  simpa using this
/-- what For tells, and leaves -/
def ForPost (N : Net) (name : ByteArray) (w : World) (e : Ending) (w' : World) : Prop :=
  Below w.heap.size w w' ∧ ∃ A c, e = .returned (.slice A (forV N name).length c) ∧ Hid (NuRow w' w.heap.size (.slice A (forV N name).length c) (forV N name))
theorem orow_own {α : Type} {e : TypeId} {enc : α → List Value} {sz base B : Nat} {v : Value} {L : List α} {W W' : World} {row : Option Nat} (h : ORow e enc sz W base v L) (hg : W.grownBy W' row) (hr : ∀ r, row = some r → B ≤ r ∧ ∃ o : Obj, W.heap[r]? = some o ∧ o.isCells = false) : ORow e enc sz W' base v L := by
  refine orow_grown h hg fun g hv e1 => ?_
  obtain ⟨_, o, ho, hc⟩ := hr g e1
  rcases h.2 with ⟨rfl, _⟩ | ⟨g1, cap, cur, rfl, _, hh, _⟩
  · simp [Value.ownBlock] at hv
  · have e2 : g1 = g := by simpa [Value.ownBlock] using hv
    subst e2
    rw [hh] at ho
    injection ho with ho
    subst ho
    simp [Obj.isCells] at hc
theorem orow_cells {α : Type} {e : TypeId} {enc : α → List Value} {sz base : Nat} {v : Value} {L : List α} {W : World} (h : ORow e enc sz W base v L) : ∀ (j : Nat) (o : Obj), v.ownBlock = some j → W.heap[j]? = some o → o.isCells = true := by
  intro j o hj ho
  rcases h.2 with ⟨rfl, _⟩ | ⟨g1, cap, cur, rfl, _, hh, _⟩
  · simp [Value.ownBlock] at hj
  · have e2 : g1 = j := by simpa [Value.ownBlock] using hj
    subst e2
    rw [hh] at ho
    injection ho with ho
    subst ho
    rfl
theorem orow_turn {α : Type} {e : TypeId} {enc : α → List Value} {sz base c : Nat} {v : Value} {L : List α} {W W' : World} (h : ORow e enc sz W base v L) (ht : Turn c W W') (hc : c < base) : ORow e enc sz W' base v L := by
  refine ⟨h.1, ?_⟩
  rcases h.2 with hn | ⟨g, cap, cur, rfl, hb, hh, rest⟩
  · exact .inl hn
  · exact .inr ⟨g, cap, cur, rfl, hb, (turn_heap ht (by omega)).trans hh, rest⟩
theorem turn_size {c : Nat} {A B : World} (h : Turn c A B) : B.heap.size = A.heap.size := by
  obtain ⟨cap, buf, cl, s, r, tm, rfl⟩ := h
  exact size_setChan _ _ _ _ _ _ _ _
theorem turn_below {n c : Nat} {a A B : World} (h : Turn c A B) (hb : Below n a A) (hc : n ≤ c) : Below n a B := by
  obtain ⟨cap, buf, cl, s, r, tm, rfl⟩ := h
  exact below_setChan hb hc _ _ _ _ _ _
theorem wpListIn_append_nu {F : Fence} {n : Nat} {ops : Array Oper} {rest : List Oper} {o : Oper} {a : Act} {w : World} {Q : Exit → Act → World → Prop} {base : Nat} {v : Value} {X : List Nat} (hgd : o.guard = none) (s x : Operand)
    (ho : o.op = .call { callee := .builtin .append, args := #[s, x], argTypes := #[45, 45] })
    (hs : a.eval s = v) (hown : NuRow w base v X) (g i : Nat) (hx : a.eval x = .slice (some ⟨g, 0, none⟩) 1 1) (hB : Blk w g 3 #[numV i]) (hl : X.length ≤ 1000000) (hbase : base ≤ w.heap.size)
    (h : ∀ A c w', Hid (NuRow w' base (.slice A (X ++ [i]).length c) (X ++ [i])) → w.grownBy w' v.ownBlock → wpListIn F n Try.prog ops Q rest (a.put o.dst (.slice A (X ++ [i]).length c)) w') : wpListIn F n Try.prog ops Q (o :: rest) a w := by
  obtain ⟨i0, hi0, hz0, hz1, hz2⟩ := info_parts int_info
  refine wpListIn_append_own w hgd s x _ ho base _ i0 _ 1 8 Try.underlying45 hi0 hz0 hz1 hz2 rfl (by omega) v X.length (flat encNu X) hs hown ⟨g, 0, none⟩ 1 1 [numV i] hx rfl ?_ (by intro u hu; simp [numV] at hu; subst hu; rfl) (by simp only [maxLen]; omega) (by omega) hbase ?_
  · intro j u hu
    have hadd : (⟨g, 0, none⟩ : Addr).add j = ⟨g, j, none⟩ := by unfold Addr.add; split <;> simp_all
    rw [hadd, hB.cell]
    simpa using hu
  · intro v' w' h1 h2 _
    have h1' : NuRow w' base v' (X ++ [i]) := orow_join h1 _ (by simp) (by simp [flat, encNu])
    obtain ⟨A, c, rfl, _⟩ := orow_form h1'
    exact h A c w' (Lib.hid h1') h2
theorem for_no (N : Net) (name : ByteArray) (A : Option Addr) (c : Nat) (w : World) (hS : SlR encL 3 w w.heap.size A N.way.length N.way) (hc : checkB N = false) :
    Calls Try.prog 25 #[.agg #[.slice A N.way.length c, .int .i64 N.sent, .int .i64 N.delivered, .int .i64 N.lost, .int .i64 N.doubled], .string name] w (ForPost N name w) := by
  have hV : forV N name = [] := by simp [forV, hc]
  have HP : Hid (∀ w', Below w.heap.size w w' → ForPost N name w (.returned (.slice none 0 0)) w') := Lib.hid (fun w' hb => by
    refine ⟨hb, none, 0, by rw [hV]; rfl, ?_⟩
    rw [hV]
    exact Lib.hid (orow_nil _ _))
  have HCk := Lib.hid (check_any N A N.way.length c (w.alloc (.cells #[.slice A N.way.length c, .int .i64 N.sent, .int .i64 N.delivered, .int .i64 N.lost, .int .i64 N.doubled] 25)) ((hS.below (by go_grown)).more (by simp)))
  rw [hc] at HCk
  clear hS hV hc
  go_enter Try.func25, Try.ntmps25
  go_wp2_with fail
  refine HCk.out.mono ?_
  rintro e w1 ⟨rfl, hb1⟩
  have hB : Below w.heap.size w w1 := Below.trans (by go_grown) (hb1.mono (by simp))
  clear HCk hb1
  go_wp2_with fail
  go_ret
  exact HP.out _ hB
set_option maxRecDepth 100000 in
set_option maxHeartbeats 2000000 in
theorem for_yes (N : Net) (name : ByteArray) (A : Option Addr) (c : Nat) (w : World) (hS : SlR encL 3 w w.heap.size A N.way.length N.way) (hc : checkB N = true) :
    Calls Try.prog 25 #[.agg #[.slice A N.way.length c, .int .i64 N.sent, .int .i64 N.delivered, .int .i64 N.lost, .int .i64 N.doubled], .string name] w (ForPost N name w) := by
  have hV : forV N name = forTo N.way name N.way.length := by simp [forV, hc]
  have hn60 : N.way.length ≤ 60 := (fine_of N hc).1
  have HP : Hid (∀ w' X A c, X = forTo N.way name N.way.length → Below w.heap.size w w' → NuRow w' w.heap.size (.slice A X.length c) X → ForPost N name w (.returned (.slice A X.length c)) w') := Lib.hid (fun w' X A c hX hb hr => by
    subst hX
    refine ⟨hb, A, c, by rw [hV], ?_⟩
    rw [hV]
    exact Lib.hid hr)
  have HCk := Lib.hid (check_any N A N.way.length c (w.alloc (.cells #[.slice A N.way.length c, .int .i64 N.sent, .int .i64 N.delivered, .int .i64 N.lost, .int .i64 N.doubled] 25)) ((hS.below (by go_grown)).more (by simp)))
  rw [hc] at HCk
  have HC : Hid (∀ W, Below w.heap.size w W → ∀ k x, N.way[k]? = some x → ∃ b off, A = some ⟨b, off, none⟩ ∧ W.cell? ⟨b, off + k * 3, none⟩ = some (.string x.fr) ∧ W.cell? ⟨b, off + k * 3 + 1, none⟩ = some (.string x.to) ∧ W.cell? ⟨b, off + k * 3 + 2, none⟩ = some (.string x.text)) := Lib.hid (fun W hb k x hx => by
    have hk := (List.getElem?_eq_some_iff.1 hx).1
    obtain ⟨b, off, e, _, hC⟩ := (hS.below hb).2.resolve_left (by omega)
    obtain ⟨q1, q2, q3⟩ := hC.letter hx
    exact ⟨b, off, e, q1, q2, q3⟩)
  have hmc := mkchan
  obtain ⟨L, sn, dl, lo, db⟩ := N
  simp only at hn60 HP HCk HC ⊢
  generalize hPo : ForPost ⟨L, sn, dl, lo, db⟩ name w = Po at *
  clear hS hV hc hPo
  generalize hll : L.length = ln at *
  have HLn := Lib.hid hll
  clear hll
  refine (callsIn_wide (n := 10)).1 ?_
  refine callsIn_of_wp_marks Try.func25 rfl trivial ?_ rfl
  simp only [Try.ntmps25, List.size_toArray, List.length_cons, List.length_nil, Nat.reduceAdd, Nat.reduceSub, Array.replicate_succ, Array.replicate_zero, List.push_toArray, List.append_toArray, List.nil_append, List.cons_append]
  gi_wp2_with fail
  refine ⟨trivial, ?_⟩
  gi_at_call 11
  refine (callsIn_wide.2 HCk.out).mono ?_
  rintro e w1 ⟨rfl, hb1⟩
  have hB1 : Below w.heap.size w w1 := Below.trans (by go_grown) (hb1.mono (by simp))
  have HBx1 : Hid (Blk w1 w.heap.size 25 #[.slice A ln c, .int .i64 sn, .int .i64 dl, .int .i64 lo, .int .i64 db]) := Lib.hid ((Blk.new w _ _).below hb1 (by simp))
  have hz1 : w.heap.size + 1 ≤ w1.heap.size := by have := hb1.size; simpa using this
  have b0 := (HBx1.out.alloc (.chan 60 #[] false 0 0 false)).cells 0 _ rfl
  simp only [List.getElem_toArray, List.getElem_cons_zero] at b0
  clear hb1 HCk
  gi_wp2_with fail
  clear b0
  have HC0 : Hid ((w1.alloc (.chan 60 #[] false 0 0 false)).heap[w1.heap.size]? = some (.chan 60 (chanV (forTo L name 0)) false 0 0 false)) := Lib.hid (heap_alloc_new _ _)
  have hBc : Below w.heap.size w (w1.alloc (.chan 60 #[] false 0 0 false)) := Below.trans hB1 (by go_grown)
  gi_loopw [17] (fun kv wr => ∃ (k s : Nat), k ≤ ln ∧ kv = .int .i64 k ∧ Hid (wr.heap[w1.heap.size]? = some (.chan 60 (chanV (forTo L name k)) false s 0 false)) ∧ w1.heap.size + 1 ≤ wr.heap.size ∧ Below w1.heap.size w1 wr) (fun kv _ => ln - (intOf kv).toNat)
  case atStart => exact ⟨0, 0, Nat.zero_le _, rfl, HC0, by simp, by go_grown⟩
  case round =>
    clear hBc HC0
    obtain ⟨k, s, hk, rfl, HCh, hzr, hBr⟩ := hrel
    have hB : Below w.heap.size w wr := hB1.trans (hBr.mono (by omega))
    by_cases hlt : k < ln
    · obtain ⟨x, hxk⟩ : ∃ x, L[k]? = some x := ⟨L[k]'(by rw [HLn.out]; exact hlt), List.getElem?_eq_getElem _⟩
      obtain ⟨b, off, rfl, c0, c1, c2⟩ := HC.out wr hB k x hxk
      have HX := Lib.hid hxk
      have HBox : Hid (wr.heap.size + 1 ≤ (wr.alloc (.cells #[.string x.fr, .string x.to, .string x.text] 27)).heap.size) := Lib.hid (by simp)
      have HCh2 : Hid ((wr.alloc (.cells #[.string x.fr, .string x.to, .string x.text] 27)).heap[w1.heap.size]? = some (.chan 60 (chanV (forTo L name k)) false s 0 false)) := Lib.hid ((Below.heap_alloc wr _ _ (by omega)).trans HCh.out)
      have hB2 : Below w1.heap.size w1 (wr.alloc (.cells #[.string x.fr, .string x.to, .string x.text] 27)) := Below.trans hBr (by go_grown)
      clear hxk
      by_cases hx : x.to = name
      · have e1 : (x.to.toList == name.toList) = true := by rw [hx]; simp
        have HF := Lib.hid (forTo_yes HX.out hx)
        have HRm : Hid ((chanV (forTo L name k)).size < 60) := Lib.hid (by rw [chanV_size]; have := forTo_len L name k; omega)
        clear hx
        gi_upto_region 8 with (fail)
        have hz3 : w1.heap.size + 1 ≤ (wr.alloc (.cells #[.string x.fr, .string x.to, .string x.text] 27)).heap.size := by simp; omega
        clear HBox
        generalize wr.alloc (.cells #[.string x.fr, .string x.to, .string x.text] 27) = w3 at *
        have HCh4 := Lib.hid (heap_setChan w3 w1.heap.size 60 (chanV (forTo L name (k + 1))) false (s + 1) 0 false (by omega))
        have HB4 : Hid (Below w1.heap.size w1 (w3.setChan w1.heap.size 60 (chanV (forTo L name (k + 1))) false (s + 1) 0 false)) := Lib.hid (below_setChan hB2 (Nat.le_refl _) _ _ _ _ _ _)
        have HZ4 : Hid (w1.heap.size + 1 ≤ (w3.setChan w1.heap.size 60 (chanV (forTo L name (k + 1))) false (s + 1) 0 false).heap.size) := Lib.hid (by rw [size_setChan]; exact hz3)
        refine (wpIn_wide (n := 10)).2 (OpsTo.region ?_)
        change OpsTo _ _ _ [0, 1, 2] _ _
        refine OpsTo.value (some 26) (v := .chan (some w1.heap.size)) (w' := w3) rfl rfl rfl (by simp [go_sem]) ?_
        refine OpsTo.value (some 27) (v := numV k) (w' := w3) rfl rfl rfl (by simp [go_sem, numV]) ?_
        refine OpsTo.send none (c := w1.heap.size) (v := numV k) (ch := .tmp 26) (x := .tmp 27) rfl rfl rfl rfl rfl rfl HCh2.out HRm.out ?_
        refine OpsTo.done ?_
        rw [chanV_push, ← HF.out]
        simp only [Act.put, numV]
        generalize w3.setChan w1.heap.size 60 (chanV (forTo L name (k + 1))) false (s + 1) 0 false = w4 at *
        clear HCh2 hB2 hz3 c0 c1 c2 HCh hBr hzr hB
        gi_wp2_with fail
        go_roundw
        case rel => exact ⟨k + 1, s + 1, by omega, by go_num, HCh4, HZ4.out, HB4.out⟩
        case measure => simp [intOf]; omega
      · have e1 : (x.to.toList == name.toList) = false := by
          simp only [beq_eq_false_iff_ne, ne_eq]
          exact fun h => hx (bytes_ext h)
        have HF := Lib.hid (forTo_no HX.out hx)
        clear hx
        gi_wp2_with fail
        go_roundw
        case rel => exact ⟨k + 1, s, by omega, by go_num, Lib.hid (by rw [HF.out]; exact HCh2.out), by simp; omega, hB2⟩
        case measure => simp [intOf]; omega
    · obtain rfl : k = ln := by omega
      have hz0 : wr.heap.size ≤ (wr.alloc (.cells #[.slice none 0 0] 45)).heap.size := by simp
      gi_wp2_with fail
      refine ⟨trivial, ?_⟩
      gi_at_call 38
      refine (laid_in Fence.wide _ trivial rfl w1.heap.size _).mono ?_
      rintro e w7 ⟨rfl, rfl⟩
      gi_wp2_with fail
      have hB0 : Below w.heap.size w ((wr.alloc (.cells #[.slice none 0 0] 45)).alloc (.cells #[.chan (some w1.heap.size)] 69)) := Below.trans hB (by have := hB.size; go_grown)
      have hsz : ((wr.alloc (.cells #[.slice none 0 0] 45)).alloc (.cells #[.chan (some w1.heap.size)] 69)).heap.size = wr.heap.size + 1 + 1 := by simp
      have hk8 := (Blk.new wr 45 #[.slice none 0 0]).alloc (.cells #[.chan (some w1.heap.size)] 69)
      have hkp := Blk.new_at (w := wr.alloc (.cells #[.slice none 0 0] 45)) (g := wr.heap.size + 1) (by simp) 69 #[.chan (some w1.heap.size)]
      have hch : ((wr.alloc (.cells #[.slice none 0 0] 45)).alloc (.cells #[.chan (some w1.heap.size)] 69)).heap[w1.heap.size]? = some (.chan 60 (chanV (forTo L name k)) false s 0 false) := (Below.heap_alloc _ _ _ (by simp; omega)).trans ((Below.heap_alloc _ _ _ (by omega)).trans HCh.out)
      clear HCh hBr hB hz0
      generalize (wr.alloc (.cells #[.slice none 0 0] 45)).alloc (.cells #[.chan (some w1.heap.size)] 69) = W0 at *
      have hwo : w.heap.size ≤ wr.heap.size := by have := hB1.size; omega
      generalize wr.heap.size = o at *
      have hq0 : w.heap.size ≤ w1.heap.size := hB1.size
      generalize w1.heap.size = q at *
      have HB0 := Lib.hid hB0
      have HK8 := Lib.hid hk8
      have HKp := Lib.hid hkp
      have HCh := Lib.hid hch
      clear hB0 hk8 hkp hch hB1 hmc
      refine wpIn_rangeFunc_turn (α := Nat) rfl (by omega) (gf := 42) (lb := #[.pointer (some ⟨o + 1, 0, none⟩)]) rfl trivial (enters_of Try.func42 (by kernel_rfl) rfl)
        (encs := fun i => #[numV i]) (S := fun ys => ys = forTo L name k) (Tn := Turn q) (Kp := KeepC q (o + 1)) (N := (forTo L name k).length)
        (fun l J W hW hJt hY h0 => laid1_in _ (by omega) l q (o + 1) s (forTo L name k) J hJt hY W ((hW.block q (by omega)).trans HCh.out) (HKp.out.below hW (by omega)) h0)
        (fun _ => rfl) (fun h k => ⟨k.1.trans h.1, k.2.trans h.2⟩)
        (fun W l o' hl => ⟨World.putObj_heap_other (by omega), World.putObj_heap_other (by omega)⟩)
        (fun A B ht i hi => turn_heap ht (by omega))
        (fun pre W => Below w.heap.size w W ∧ o + 1 + 1 ≤ W.heap.size ∧ ∃ A3 c3, Blk W o 45 #[.slice A3 pre.length c3] ∧ NuRow W (o + 1 + 1) (.slice A3 pre.length c3) pre)
        (fun s W W' row hs hg hr => by
          obtain ⟨h1, h2, A3, c3, h3, h4⟩ := hs
          exact ⟨h1.grown hg h1.size (fun k e => by have := (hr k e).1; omega), Nat.le_trans h2 hg.size, A3, c3, h3.grown hg (fun e => by have := (hr o e.symm).1; omega), orow_own h4 hg hr⟩)
        (fun s A B hs ht => by
          obtain ⟨h1, h2, A3, c3, h3, h4⟩ := hs
          exact ⟨turn_below ht h1 hq0, by rw [turn_size ht]; exact h2, A3, c3, (turn_heap ht (by omega)).trans h3, orow_turn h4 ht (by omega)⟩)
        ⟨HB0.out, by omega, none, 0, HK8.out, orow_nil _ _⟩
        (fun x => { tmps := #[.agg #[.slice A k c, .int .i64 sn, .int .i64 dl, .int .i64 lo, .int .i64 db], .string name, .pointer (some ⟨w.heap.size, 0, none⟩), undef, .slice none 0 0, .chan (some q), u6, u7, .pointer (some ⟨o, 0, none⟩), numV x,
          .agg #[.slice A k c, .int .i64 sn, .int .i64 dl, .int .i64 lo, .int .i64 db], .bool true, .bool false, .chan (some q), .pointer (some ⟨w.heap.size, 0, none⟩), .slice A k c, .int .i64 k, .int .i64 k, .bool false, u19, u20, u21, u22, u23, u24, u25, u26, u27, u28, .chan (some q),
          .func (.func 42) #[] #[.pointer (some ⟨o + 1, 0, none⟩)], numV x, undef, undef, undef, undef, undef], defers := [] })
        ?assign ?body ?done
      case assign =>
        intro l x W K hK
        simp only [numV]
        gi_wp2
        exact hK
      case body =>
        rintro l pre x W hl _ ⟨h1, h2, A3, c3, h3, h4⟩ hlen
        have hp60 : pre.length ≤ 60 := by have := forTo_len L name k; omega
        have HB := Lib.hid h1
        have HK := Lib.hid h3
        have HR := Lib.hid h4
        have q0 := h3.cells 0 _ rfl
        simp only [List.getElem_toArray, List.getElem_cons_zero] at q0
        have HRa : Hid (NuRow (W.alloc (.cells #[numV x] 3)) (o + 1 + 1) (.slice A3 pre.length c3) pre) := Lib.hid (orow_alloc h4 _)
        have HKa : Hid (Blk (W.alloc (.cells #[numV x] 3)) o 45 #[.slice A3 pre.length c3]) := Lib.hid (h3.alloc _)
        have HNu : Hid (Blk (W.alloc (.cells #[numV x] 3)) W.heap.size 3 #[numV x]) := Lib.hid (Blk.new W _ _)
        have HZa : Hid (o + 1 + 1 ≤ (W.alloc (.cells #[numV x] 3)).heap.size) := Lib.hid (by simp; omega)
        have HKO : Hid (KeepsOthers W (W.alloc (.cells #[numV x] 3))) := Lib.hid (KeepsOthers.alloc _ _)
        have HBa : Hid (Below W.heap.size W (W.alloc (.cells #[numV x] 3))) := Lib.hid (by go_grown)
        clear h1 h3 h4 hlen
        simp only [numV] at *
        gi_wp2_with (gi_at_builtin; refine wpListIn_append_nu rfl (.tmp 32) (.tmp 34) rfl rfl HRa.out W.heap.size x rfl HNu.out (by omega) HZa.out ?_; intro A4 c4 w4 HR4 hg4; have hk4 := HKa.out.grown hg4 (fun e => own_blk_ne HRa.out HKa.out (by decide) e.symm); have r0 := hk4.cells 0 _ rfl; have f0 := hk4.frozen 0; simp only [List.getElem_toArray, List.getElem_cons_zero] at r0)
        have hlow : ∀ i, i ≤ o + 1 → i < W.heap.size → w4.heap[i]? = W.heap[i]? := fun i hi hlt => (hg4.block i (by simp; omega) (fun e => by have := (orow_lt HRa.out e.symm).1; omega)).trans (Below.heap_alloc W _ i hlt)
        have hq1 : q ≤ o + 1 := by omega
        refine ⟨((HKO.out.trans (KeepsOthers.of_grownBy hg4 (orow_cells HRa.out))).trans (KeepsOthers.setCell _ _ _)).from _, ⟨(Below.heap_setCell w4 ⟨o, 0, none⟩ _ q (by simp; omega)).trans (hlow q hq1 (by omega)), (Below.heap_setCell w4 ⟨o, 0, none⟩ _ (o + 1) (by simp)).trans (hlow (o + 1) (Nat.le_refl _) (by omega))⟩, ?_, ?_, A4, c4, ?_, ?_⟩
        · exact ((Below.trans HB.out (HBa.out.mono (by omega))).grown hg4 (by have := HZa.out; omega) (fun g e => by have := (orow_lt HRa.out e).1; omega)).setCell hwo _
        · have := hg4.size
          have := HZa.out
          omega
        · simpa using hk4.set_ 0 (.slice A4 (pre ++ [x]).length c4)
        · have := orow_far HR4.out hk4 (by decide) 0 (.slice A4 (pre ++ [x]).length c4)
          simpa [NuRow] using this
      case done =>
        rintro D xs W hD hxs ⟨h1, h2, A3, c3, h3, h4⟩ hK
        have q0 := h3.cells 0 _ rfl
        simp only [List.getElem_toArray, List.getElem_cons_zero] at q0
        have HKd := Lib.hid hK
        have hfin := HP.out (W.putObj D (.deferred none)) xs A3 c3 hxs (belowK_b (n₀ := w.heap.size) (w := W0) (by omega) W D _ _ (by omega) hK rfl rfl |> h1.trans) (orow_own (orow_base h4 (by omega)) (grownBy_putObj' W D (.deferred none)) (B := 0) (fun r e => by cases e; exact ⟨Nat.zero_le _, _, hK, rfl⟩))
        have HFin := Lib.hid hfin
        clear hfin hxs h1 h3 h4 hK
        gi_wp2
        refine ⟨by simp, .inl ⟨_, _, rfl, run_takeDeferred HKd.out, ?_⟩⟩
        refine ⟨.slice A3 xs.length c3, ?_, HFin.out⟩
        simp [results, Try.f25, go_sem]
theorem for_any (N : Net) (name : ByteArray) (A : Option Addr) (c : Nat) (w : World) (hS : SlR encL 3 w w.heap.size A N.way.length N.way) :
    Calls Try.prog 25 #[.agg #[.slice A N.way.length c, .int .i64 N.sent, .int .i64 N.delivered, .int .i64 N.lost, .int .i64 N.doubled], .string name] w (ForPost N name w) := by
  cases hc : checkB N with
  | false => exact for_no N name A c w hS hc
  | true => exact for_yes N name A c w hS hc
end Go.Proofs.Ytojabnaabgbclaa
