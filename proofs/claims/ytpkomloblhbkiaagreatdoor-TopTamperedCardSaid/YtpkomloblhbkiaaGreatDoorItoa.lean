/- strconv.Itoa at this program: the shelf's contract. -/
import Derived.Test.YtpkomloblhbkiaaGreatDoorKeep
import Derived.Deep.WholeRow
import Derived.Test.YtpkomloblhbkiaaGreatDoorWordA
import Derived.Deep.Slices
import Derived.Lib.SmallJoins
import Derived.SizedLaws
import Derived.Shelf.Strconv.Itoa3
import Derived.Shelf.Unicode.PredsPay
import Derived.Lib.ItoaMem
set_option linter.unusedVariables false
/- Whole rows loaded and stored inside a fence. -/
namespace Go.Proofs.YtpkomloblhbkiaaGreatDoor
open Go.RowKit Go.Shelf
theorem wpListIn_load_row {F : Fence} {n : Nat} {P : Program} {ops : Array Oper} {rest : List Oper} {o : Oper} {a : Act} {w : World} {Q : Exit → Act → World → Prop} (hgd : o.guard = none) (ty : TypeId) (x : Operand) (ho : o.op = .load ty x)
    (g : Nat) (hx : a.eval x = .pointer (some ⟨g, 0, none⟩)) (t : TypeId) (cs : Array Value) (fr : Nat × Nat) (d : TypeDesc) (hg : w.heap[g]? = some (.cells cs t fr))
    (hu : P.underlying ty = some d) (hd : (match d with | .struct _ | .array _ _ => true | _ => false) = true) (hi : (P.info? ty).map (·.size) = some cs.size)
    (h : wpListIn F n P ops Q rest (a.put o.dst (.agg cs)) w) : wpListIn F n P ops Q (o :: rest) a w := by
  refine wpListIn_plain hgd fun K hK' => ?_
  unfold Oper.wpIn
  refine ⟨by simp [Oper.about, ho], ?_⟩
  rw [Oper.semAt_plain F _ _ (by rw [ho]; intro c hc; cases hc)]
  simp only [execOp, ho, hx, Instr.loadAt, Instr.sureAddr, Sem.run_bind, Sem.run_pure, Result.andThen_ok, run_loadVar_row w g t ty cs fr d hg hu hd hi]
  exact hK' _ _ h
theorem wpListIn_store_row {F : Fence} {n : Nat} {P : Program} {ops : Array Oper} {rest : List Oper} {o : Oper} {a : Act} {w : World} {Q : Exit → Act → World → Prop} (hgd : o.guard = none) (ty : TypeId) (x y : Operand) (ho : o.op = .store ty x y)
    (g : Nat) (cells : Array Value) (hx : a.eval x = .pointer (some ⟨g, 0, none⟩)) (hy : a.eval y = .agg cells)
    (t : TypeId) (old : Array Value) (hg : w.heap[g]? = some (.cells old t (0, 0))) (hi : (P.info? ty).map (·.size) = some cells.size)
    (hold : old.size = cells.size) (h1 : cells.all (·.oneCell') = true)
    (h : wpListIn F n P ops Q rest (a.put o.dst undef) (w.setRow g cells)) : wpListIn F n P ops Q (o :: rest) a w := by
  refine wpListIn_plain hgd fun K hK' => ?_
  unfold Oper.wpIn
  refine ⟨by simp [Oper.about, ho], ?_⟩
  rw [Oper.semAt_plain F _ _ (by rw [ho]; intro c hc; cases hc)]
  simp only [execOp, ho, hx, hy, Instr.storeAt, Instr.sureAddr, Sem.run_bind, Sem.run_pure, Result.andThen_ok, run_storeVar_row w g t ty old cells hg hi hold h1]
  exact hK' _ _ h
/-- a row's block of cells is turned: whatever is no cells lies as it lay -/
theorem keepsOthers_setRow (w : World) (g : Nat) (old cs : Array Value) (t : TypeId) (fr : Nat × Nat) (hg : w.heap[g]? = some (.cells old t fr)) : KeepsOthers w (w.setRow g cs) :=
  ⟨by simp, fun k o hk ho => by
    by_cases e : k = g
    · subst e
      rw [hg] at hk
      injection hk with hk
      subst hk
      simp [Obj.isCells] at ho
    · exact (setRow_other w g k cs e).trans hk⟩
theorem blk_own {β : Type} (g : Nat) (t : TypeId) (cs : β → Array Value) : Own (fun (s : β) (W : World) => Blk W g t (cs s)) := by
  intro s W W' row h hg hr
  refine h.grown hg (fun e => ?_)
  obtain ⟨o, ho, hc⟩ := hr g e.symm
  unfold Blk at h
  rw [h] at ho
  injection ho with ho
  subst ho
  simp [Obj.isCells] at hc
theorem Kept.setRow {B g : Nat} {W : World} (h : B ≠ g) (cs : Array Value) : Kept B W (W.setRow g cs) := setRow_other W g B cs h
end Go.Proofs.YtpkomloblhbkiaaGreatDoor
/- digest.Sum. -/
namespace Go.Proofs.YtpkomloblhbkiaaGreatDoor
open Go.RowKit Go.Shelf
attribute [local go_sem] Oper.semAt_some
def foldT (pre : List ByteArray) : List Nat := pre.foldl stepT startL
theorem foldT_state (pre : List ByteArray) : State (foldT pre) := by
  rcases List.eq_nil_or_concat pre with rfl | ⟨l, x, rfl⟩
  · exact startL_state
  · rw [foldT, List.concat_eq_append, List.foldl_append]; exact stepT_state _ _
theorem foldT_snoc (pre : List ByteArray) (x : ByteArray) : foldT (pre ++ [x]) = stepT (foldT pre) x := by simp [foldT]
theorem foldT_chunks (s : ByteArray) (k : Nat) (hk : 64 * k ≤ s.size) : foldT ((chunksOf s).take k) = foldB startL s k := by
  induction k with
  | zero => rfl
  | succ k ih =>
    rw [← chunks_succ s (by omega), foldT_snoc, ih (by omega), foldB, stepT, if_pos]
    · rfl
    · rw [chunkOf, size_extract]; omega
theorem foldT_all (s : ByteArray) : foldT (chunksOf s) = foldB startL s (s.size / 64) := by
  rw [← foldT_chunks s (s.size / 64) (by omega), List.take_of_length_le (by rw [chunksOf_len]; omega)]
def sumF (s : ByteArray) : ByteArray := if s.size ≤ 1000000000 then sumS s else ByteArray.empty
theorem sum_big (s : ByteArray) (w : World) (hs : 1000000000 < s.size) (hm : s.size ≤ maxLen) :
    Calls Tryz.prog 14 #[.string s] w fun r w' => r = .returned (.string ByteArray.empty) ∧ Below w.heap.size w w' := by
  unfold maxLen at hm
  go_enter Tryz.func14, Tryz.ntmps14
  go_wp2_with fail
  refine (pad_no s.size _ (.inr (by omega))).mono ?_
  rintro e w1 ⟨rfl, rfl⟩
  go_wp2_with fail
  go_ret
  exact ⟨rfl, Below.refl _ _⟩
/-- a state in a box -/
def St (W : World) (g : Nat) (L : List Nat) : Prop := Blk W g 90 ((ints L).map vI).toArray
theorem st_size {L : List Nat} (h : State L) : ((ints L).map vI).toArray.size = 8 := by simp [ints, h.1]
theorem st_one (L : List Nat) : ((ints L).map vI).toArray.all (·.oneCell') = true := all_oneCell_toArray (fun v hv => spread_one hv)
theorem info8 {L : List Nat} (h : State L) : (Tryz.prog.info? 90).map (·.size) = some ((ints L).map vI).toArray.size := by rw [st_size h]; kernel_rfl
theorem rounds_of {w W : World} (h : Rounds w) (hb : Below w.heap.size w W) : Rounds W := h.below hb h.pos
set_option maxHeartbeats 1000000 in
set_option maxRecDepth 100000 in
theorem sum_in (s : ByteArray) (w : World) (hs : s.size ≤ 1000000000) (hG : Rounds w) :
    Calls Tryz.prog 14 #[.string s] w fun r w' => r = .returned (.string (sumS s)) ∧ Below w.heap.size w w' := by
  have HS := Lib.hid hs
  have HG := Lib.hid hG
  have hp := pad_bounds s.size
  have hpw := pad_whole s.size
  obtain ⟨b, hb⟩ : ∃ b, padB s.size = b := ⟨_, rfl⟩
  rw [hb] at hp hpw
  have HP := Lib.hid (And.intro hb (And.intro hp hpw))
  clear hs hG hp hpw hb
  refine (callsIn_wide (n := 10)).1 ?_
  refine callsIn_of_wp_marks Tryz.func14 rfl trivial ?_ rfl
  simp only [Tryz.ntmps14, List.size_toArray, List.length_cons, List.length_nil, Nat.reduceAdd, Nat.reduceSub, Array.replicate_succ, Array.replicate_zero, List.push_toArray, List.append_toArray, List.nil_append, List.cons_append]
  gi_wp2_with fail
  refine ⟨trivial, ?_⟩
  gi_at_call 35
  refine (callsIn_wide.2 (pad_in s.size _ HS.out)).mono ?_
  rintro e w1 ⟨rfl, hb1⟩
  rw [HP.out.1]
  gi_wp2_with fail
  refine ⟨trivial, ?_⟩
  gi_at_call 36
  refine (callsIn_wide.2 (start_any _)).mono ?_
  rintro e w2 ⟨rfl, hb2⟩
  have hB2 := hb1.trans (hb2.mono hb1.size)
  have h12 := hb1.size
  have h22 := hb2.size
  clear hb1 hb2
  gi_wp2_with (refine wpListIn_store_row rfl 90 (.tmp 5) (.tmp 17) rfl w2.heap.size ((ints startL).map vI).toArray rfl rfl 90 #[.int .i64 0, .int .i64 0, .int .i64 0, .int .i64 0, .int .i64 0, .int .i64 0, .int .i64 0, .int .i64 0] (Blk.new _ _ _) (info8 startL_state) (by rw [st_size startL_state]; rfl) (st_one _) ?_; rw [World.setRow_alloc_new])
  refine ⟨trivial, ?_⟩
  gi_at_call 37
  refine (blocks_in Fence.wide _ trivial rfl s b _).mono ?_
  rintro e w3 ⟨rfl, rfl⟩
  gi_wp2_with fail
  have hbx1 := ((Blk.new_at (g := w2.heap.size + 1) (w := w2.alloc (.cells ((ints startL).map vI).toArray 90)) (by simp) 9 #[.string s]).alloc (.cells #[.string b] 9))
  have hbx2 := Blk.new_at (g := w2.heap.size + 1 + 1) (w := (w2.alloc (.cells ((ints startL).map vI).toArray 90)).alloc (.cells #[.string s] 9)) (by simp) 9 #[.string b]
  have hst : St (((w2.alloc (.cells ((ints startL).map vI).toArray 90)).alloc (.cells #[.string s] 9)).alloc (.cells #[.string b] 9)) w2.heap.size (foldT []) := ((Blk.new _ _ _).alloc _).alloc _
  have hB0 : Below w.heap.size w (((w2.alloc (.cells ((ints startL).map vI).toArray 90)).alloc (.cells #[.string s] 9)).alloc (.cells #[.string b] 9)) := by go_grown
  generalize hW0 : ((w2.alloc (.cells ((ints startL).map vI).toArray 90)).alloc (.cells #[.string s] 9)).alloc (.cells #[.string b] 9) = W0 at hbx1 hbx2 hst hB0 ⊢
  have hsz0 : W0.heap.size = w2.heap.size + 1 + 1 + 1 := by rw [← hW0]; simp
  clear hW0
  refine wpIn_rangeFunc_ownH rfl (by omega) (gf := 71) (lb := #[.pointer (some ⟨w2.heap.size + 1, 0, none⟩), .pointer (some ⟨w2.heap.size + 1 + 1, 0, none⟩)]) rfl trivial (enters_of Tryz.func71 (by kernel_rfl) rfl)
    (encs := fun x => #[.string x]) (Kp := Kept (w2.heap.size + 1 + 1)) (S := fun xs => xs = chunksOf (s ++ b)) (Sp := fun pre => pre <+: chunksOf (s ++ b)) (N := (chunksOf (s ++ b)).length) (w0 := W0)
    (fun l J Jx W hW hJ hJx hY h0 => blocks1_in Fence.wide _ trivial rfl (by omega) l (w2.heap.size + 1) (w2.heap.size + 1 + 1) s b J Jx (Kept (w2.heap.size + 1 + 1)) (Kept.refl _) (fun _ _ _ => Kept.trans) (fun A B h => h.cell 0) hY W
      ((hW.cell (p := ⟨w2.heap.size + 1, 0, none⟩) (by simp; omega)).trans (hbx1.cells 0 _ rfl)) ((hW.cell (p := ⟨w2.heap.size + 1 + 1, 0, none⟩) (by simp; omega)).trans (hbx2.cells 0 _ rfl)) HP.out.2.2 HS.out HP.out.2.1.2 h0)
    Kept.trans (fun W l o o' hl h1 h2 h3 => Kept.below (belowK_b (n₀ := w2.heap.size + 1 + 1 + 1) (w := W0) (by omega) W l o o' hl h1 h2 h3) (by omega)) (Below.refl _ _) (fun _ => rfl)
    (fun pre W => St W w2.heap.size (foldT pre) ∧ Below w.heap.size w W ∧ w2.heap.size + 1 + 1 + 1 ≤ W.heap.size)
    (fun _ _ _ => False)
    (fun st W W' row hs hg hr => ⟨blk_own _ _ (fun (_ : Unit) => _) () W W' row hs.1 hg (fun r e => (hr r e).2), hs.2.1.grown hg hs.2.1.size (fun k e => by have := (hr k e).1; omega), Nat.le_trans hs.2.2 hg.size⟩)
    (fun _ _ _ _ _ h _ _ => h.elim)
    ⟨hst, hB0, by omega⟩
    (fun x a' W => a' = { tmps := #[.string s, undef, .string ByteArray.empty, .string b, .bool true, .pointer (some ⟨w2.heap.size, 0, none⟩), .string x, undef, undef, .tuple #[.string b, .bool true], .string s, .int .i64 s.size, .tuple #[.string b, .bool true], .string b, .bool true, .bool true, .bool false, .agg ((ints startL).map vI).toArray, .string s, .string b, .func (.func 71) #[] #[.pointer (some ⟨w2.heap.size + 1, 0, none⟩), .pointer (some ⟨w2.heap.size + 1 + 1, 0, none⟩)], .string x, undef, undef, undef, undef, undef, undef, undef, undef, undef, undef, undef, undef], defers := [] })
    (fun _ _ _ _ _ _ h _ _ => h)
    ?assign ?body ?done ?stop
  case assign =>
    rintro l pre x W K hI hK
    gi_wp2
    exact hK _ _ (KeepsFrom.refl _ _) (Kept.refl _ _) hI rfl
  case body =>
    rintro l pre x a' W hl _ ⟨hR, hB, hzW⟩ rfl hlt
    have HR := Lib.hid hR
    have hst := foldT_state pre
    have HST := Lib.hid hst
    have HGW := Lib.hid (rounds_of HG.out hB)
    clear hR hst hbx1 hbx2
    gi_wp2_with (refine wpListIn_load_row rfl 90 (.tmp 5) rfl w2.heap.size rfl 90 ((ints (foldT pre)).map vI).toArray (0, 0) (.array 8 3) HR.out (by kernel_rfl) rfl (info8 HST.out) ?_)
    refine ⟨trivial, ?_⟩
    gi_at_call 38
    refine (CallsIn.inRound l (callsIn_wide.2 (step_tot (foldT pre) x W HGW.out HST.out))).mono ?_
    rintro e W1 ⟨rfl, hb1⟩
    have hlt1 := HR.out.lt
    have HR1 := Lib.hid (HR.out.below hb1 hlt1)
    have HST2 := Lib.hid (stepT_state (foldT pre) x)
    have hB1 := hB.trans (hb1.mono hB.size)
    have HKO := Lib.hid (keepsOthers_below hb1)
    have HKe := Lib.hid (Kept.below (B := w2.heap.size + 1 + 1) hb1 (by omega))
    have hs1 := hb1.size
    clear hb1
    unfold stV
    gi_wp2_with (refine wpListIn_store_row rfl 90 (.tmp 5) (.tmp 26) rfl w2.heap.size ((ints (stepT (foldT pre) x)).map vI).toArray rfl rfl 90 ((ints (foldT pre)).map vI).toArray HR1.out (info8 HST2.out) (by rw [st_size HST.out, st_size HST2.out]) (st_one _) ?_)
    refine ⟨(HKO.out.trans (keepsOthers_setRow _ _ _ _ _ _ HR1.out)).from _, HKe.out.trans (Kept.setRow (by omega) _), ?_, below_setRow hB1 (by omega) _, by simp; omega⟩
    rw [foldT_snoc]
    exact setRow_heap _ _ _ _ _ _ HR1.out
  case done =>
    rintro D ys W hD rfl ⟨hR, hB, hzW⟩ hK
    have hst := foldT_state (chunksOf (s ++ b))
    have hsl := slr_newT (B := W.heap.size) (foldT (chunksOf (s ++ b))) hR (by omega)
    rw [hst.1] at hsl
    have HSL := Lib.hid (And.intro hsl hst.2)
    have HF := Lib.hid (foldT_all (s ++ b))
    clear hst hsl hR
    gi_wp2_with fail
    refine ⟨trivial, ?_⟩
    gi_at_call 39
    refine (callsIn_wide.2 (join_high (foldT (chunksOf (s ++ b))) _ 8 8 W HSL.out.1 (by omega) HSL.out.2 (by omega))).mono ?_
    rintro e W1 ⟨rfl, hb1⟩
    have hK1 := (hb1.block D (Array.getElem?_eq_some_iff.1 hK).1).trans hK
    have hv : joinW (foldT (chunksOf (s ++ b))) true = sumS s := by
      rw [HF.out, sumS, stateS, HP.out.1, ByteArray.size_append]
    have HV := Lib.hid hv
    have hB1 := hB.trans (hb1.mono hB.size)
    clear hb1 hv
    gi_wp2_with fail
    refine ⟨by simp, .inl ⟨_, _, rfl, run_takeDeferred hK1, ?_⟩⟩
    exact ⟨_, results_tmp rfl _ _ _, by simp; rw [HV.out], hB1.trans (belowK_b (n₀ := w.heap.size) (w := W0) hB0.size W1 D _ _ hD hK1 rfl rfl)⟩
  case stop =>
    rintro D cd pre W hD hpre h hK0
    exact h.elim
end Go.Proofs.YtpkomloblhbkiaaGreatDoor
/- From a law's walk to its statement: reading the arguments. -/
namespace Go.Proofs.YtpkomloblhbkiaaGreatDoor
open Go.RowKit Go.ChangeShapes Go.WideShapes Go.ChangeAt Go.Deep
theorem own : ownKnob Tryz.prog.godebug = none := by kernel_rfl
theorem laidOut : laidOutB Tryz.prog = true := by kernel_rfl
theorem exists_list {α : Type} (Q : Nat → α → Prop) (n : Nat) (h : ∀ i, i < n → ∃ y, Q i y) : ∃ L : List α, L.length = n ∧ ∀ i y, L[i]? = some y → Q i y := by
  induction n with
  | zero => exact ⟨[], rfl, fun i y hy => by simp at hy⟩
  | succ n ih =>
    obtain ⟨L, hl, hL⟩ := ih fun i hi => h i (by omega)
    obtain ⟨y, hy⟩ := h n (by omega)
    refine ⟨L ++ [y], by simp [hl], fun i z hz => ?_⟩
    rcases Nat.lt_or_ge i n with hi | hi
    · rw [List.getElem?_append_left (by omega)] at hz; exact hL i z hz
    · rw [List.getElem?_append_right (by omega)] at hz
      have : i - L.length = 0 := by
        have := (List.getElem?_eq_some_iff.1 hz).1
        simp at this; omega
      rw [this] at hz
      simp at hz
      subst hz
      have : i = n := by omega
      subst this; exact hy
/-- nothing that is read takes more than the form's reach -/
def Light {H : Type} (t : TypeId) (d : DataW H) : Prop := ∀ m ∈ d.weights Tryz.prog t, m ≤ reachBytes
theorem light_string {H : Type} {t : TypeId} {bs : List UInt8} (h : Light (H := H) t (.lit (.string bs))) : bs.length ≤ 140737488351232 := h _ (by simp [DataW.weights])
theorem light_struct {H : Type} {t : TypeId} {fs : Array Field} {parts : List (DataW H)} (ht : Tryz.prog.underlying t = some (.struct fs)) (h : Light t (.agg parts)) {j : Nat} {f : Field} {d : DataW H} (hf : fs[j]? = some f) (hd : parts[j]? = some d) : Light f.type d := by
  intro m hm
  refine h m ?_
  simp only [DataW.weights, ht]
  exact DataW.weights_mem_each (j := j) (by simp [hf]) hd m hm
theorem light_all {H : Type} {e : TypeId} : ∀ {l : List (DataW H)} {d : DataW H}, d ∈ l → ∀ m ∈ d.weights Tryz.prog e, m ∈ DataW.weightsAll Tryz.prog e l
  | x :: r, d, hd, m, hm => by
    simp only [DataW.weightsAll, List.mem_append]
    rcases List.mem_cons.1 hd with rfl | hd
    · exact .inl hm
    · exact .inr (light_all hd m hm)
theorem light_slice {H : Type} {t e : TypeId} {elems spare : List (DataW H)} (ht : Tryz.prog.underlying t = some (.slice e)) (h : Light t (.slice elems spare)) : (elems.length + spare.length) * Tryz.prog.bytesOf e ≤ 140737488351232 ∧ ∀ d ∈ elems, Light e d := by
  refine ⟨h _ (by simp [DataW.weights, ht]), fun d hd m hm => h m ?_⟩
  simp only [DataW.weights, ht, List.mem_cons, List.mem_append]
  exact .inr (.inl (light_all hd m hm))
theorem light_arg {H : Type} {ts : List TypeId} {ds : List (DataW H)} (h : (DataW.weightsEach Tryz.prog ts ds).all (· ≤ reachBytes) = true) {j : Nat} {t : TypeId} {d : DataW H} (ht : ts[j]? = some t) (hd : ds[j]? = some d) : Light t d := by
  intro m hm
  have := List.all_eq_true.1 h m (DataW.weights_mem_each ht hd m hm)
  simpa using this
section
variable {H : Type} {enc' : TypeId × Value → H} {w : World} {base : Nat} {spare : Nat → Bool} {held : Bool}
theorem open_row {α : Type} {enc : α → List Value} {sz : Nat} {Ok : α → Prop} {t e : TypeId} {fuel : Nat} {cs : List Value} {x : DataW H × List MemPlace}
    (ht : Tryz.prog.underlying t = some (.slice e)) (hc : Tryz.prog.cellsOf e = sz) (hpos : 0 < sz)
    (he : ∀ n cs x, DataW.trod enc' Tryz.prog w base spare held n e cs = some x → Light e x.1 → ∃ y, cs = enc y ∧ Ok y)
    (h : DataW.trod enc' Tryz.prog w base spare held fuel t cs = some x) (hw : Light t x.1) :
    ∃ A n c L, cs = [.slice A n c] ∧ SlR enc sz w w.heap.size A n L ∧ n ≤ c ∧ c ≤ maxLen ∧ (∀ y ∈ L, Ok y) ∧ n * Tryz.prog.bytesOf e ≤ 140737488351232 := by
  rcases open_slice ht h with ⟨rfl, _⟩ | ⟨a, len, cap, m, n, D, Pl, rfl, _, hl, hm, hmm, hx, hi⟩
  · exact ⟨none, 0, 0, [], rfl, SlR.nil_, by omega, by simp [maxLen], by simp, by omega⟩
  · have hle : len ≤ m := by rw [hmm]; split <;> omega
    subst hx
    obtain ⟨hby, hels⟩ := light_slice ht hw
    simp only [List.length_map, List.length_range] at hby
    have hby' : len * Tryz.prog.bytesOf e ≤ 140737488351232 := Nat.le_trans (Nat.mul_le_mul_right _ (by omega)) hby
    obtain ⟨L, hL, hQ⟩ := exists_list (fun i y => ∃ cs', w.cells? base (a.add (i * Tryz.prog.cellsOf e)) (Tryz.prog.cellsOf e) = some cs' ∧ cs' = enc y ∧ Ok y) len (fun i hil => by
      obtain ⟨cs', h1, h2⟩ := hi i (by omega)
      obtain ⟨y, hy, ho⟩ := he _ _ _ h2 (hels _ (List.mem_map.2 ⟨i, by simpa using hil, rfl⟩))
      exact ⟨y, cs', h1, hy, ho⟩)
    refine ⟨some a, len, cap, L, rfl, ⟨hL, ?_⟩, hl, hm, fun y hy => ?_, hby'⟩
    · rcases Nat.eq_zero_or_pos len with h0 | h0
      · exact .inl h0
      · have hcell : ∀ k x, L[k]? = some x → ∀ j v, (enc x)[j]? = some v → w.cell? ((a.add (k * sz)).add j) = some v := by
          intro k x hk j v hv
          obtain ⟨cs', h1, h2, _⟩ := hQ k x hk
          subst h2
          obtain ⟨_, hlen, hat⟩ := World.cells?_some h1
          have hj : j < (enc x).length := (List.getElem?_eq_some_iff.1 hv).1
          have := hat j (by omega)
          rw [hc] at this
          rw [this, hv]
        obtain ⟨x0, hx0⟩ : ∃ x, L[0]? = some x := ⟨L[0]'(by omega), List.getElem?_eq_getElem (by omega)⟩
        have hsz : (enc x0).length = sz := by
          obtain ⟨cs', h1, h2, _⟩ := hQ 0 x0 hx0
          subst h2
          obtain ⟨_, hlen, _⟩ := World.cells?_some h1
          rw [hlen, hc]
        obtain ⟨v0, hv0⟩ : ∃ v, (enc x0)[0]? = some v := ⟨(enc x0)[0]'(by omega), List.getElem?_eq_getElem (by omega)⟩
        have hcell0 := hcell 0 x0 hx0 0 v0 hv0
        have e0 : (a.add (0 * sz)).add 0 = a := by simp [Addr.add]
        rw [e0] at hcell0
        have hbl := World.block_lt_of_cell? w a hcell0
        obtain ⟨b, off, spot⟩ := a
        obtain rfl : spot = none := by
          cases spot with
          | none => rfl
          | some s =>
            simp only [World.cell?] at hcell0
            split at hcell0 <;> simp_all
        refine .inr ⟨b, off, rfl, hbl, fun k x hk j v hv => ?_⟩
        have := hcell k x hk j v hv
        rwa [Addr.add_lit, Addr.add_lit] at this
    · obtain ⟨i, hi⟩ := List.getElem?_of_mem hy
      obtain ⟨_, _, _, ho⟩ := hQ i y hi
      exact ho
end
end Go.Proofs.YtpkomloblhbkiaaGreatDoor
/- reading a law's plain arguments. -/
namespace Go.Proofs.YtpkomloblhbkiaaGreatDoor
open Go.RowKit Go.ChangeShapes Go.WideShapes Go.ChangeAt Go.Deep
def StrOk (s : ByteArray) : Prop := s.size ≤ 140737488351232
def WfI (x : Int) : Prop := -9223372036854775808 ≤ x ∧ x ≤ 9223372036854775807
theorem wfI {x : Int} (h : (Lit.int .i64 x).wf = true) : WfI x := by
  simp [Lit.wf, IntKind.min, IntKind.max, IntKind.signed, IntKind.bits] at h
  exact h
section
variable {H : Type} {enc' : TypeId × Value → H} {w : World} {base b0 : Nat} {spare : Nat → Bool} {held : Bool} {r : Reach} {v : Value} {d : DataW H} {p : List MemPlace}
set_option maxRecDepth 100000 in
theorem open_str (hv : Value.okWide Tryz.prog w r b0 9 v) (h : DataW.Trod enc' Tryz.prog w base spare held 9 v d p) (hw : Light 9 d) : ∃ s, v = .string s ∧ StrOk s := by
  obtain ⟨s, rfl, rfl, _⟩ := Go.ChangeMaps.open_string Tryz.underlying9 hv h
  exact ⟨s, rfl, by have := light_string hw; simpa [StrOk] using this⟩
set_option maxRecDepth 100000 in
theorem open_i64 (hv : Value.okWide Tryz.prog w r b0 3 v) (h : DataW.Trod enc' Tryz.prog w base spare held 3 v d p) : ∃ i, v = .int .i64 i ∧ WfI i := by
  obtain ⟨x, rfl, rfl, rfl, hx⟩ := open_int Tryz.underlying3 hv h
  exact ⟨x, rfl, wfI hx⟩
end
end Go.Proofs.YtpkomloblhbkiaaGreatDoor
namespace Go.Proofs.YtpkomloblhbkiaaGreatDoor
open Go.RowKit Go.Shelf
def itoaRen : Go.Shelf.Ren := ⟨fun | 129 => 154 | 171 => 118 | 243 => 131 | 246 => 145 | 283 => 148 | 284 => 149 | 285 => 150 | 286 => 151 | 317 => 153 | 318 => 155 | 319 => 156 | 320 => 157 | 337 => 158 | 338 => 159 | n => n, fun | 0 => 0 | 2 => 2 | 3 => 3 | 4 => 4 | 5 => 5 | 9 => 9 | 20 => 20 | 37 => 113 | 46 => 185 | 51 => 175 | 53 => 213 | 171 => 212 | 173 => 216 | 212 => 221 | 213 => 222 | 232 => 225 | 233 => 226 | n => n, fun | 17 => 2 | 18 => 3 | 19 => 4 | n => n⟩
theorem itoaLays : Go.Proofs.LaysM.n171 Tryz.prog itoaRen := {
  mixed := by kernel_rfl
  f129 := Tryz.func154.trans (congrArg some (by kernel_rfl))
  f171 := Tryz.func118.trans (congrArg some (by kernel_rfl))
  f243 := Tryz.func131.trans (congrArg some (by kernel_rfl))
  f246 := Tryz.func145.trans (congrArg some (by kernel_rfl))
  f283 := Tryz.func148.trans (congrArg some (by kernel_rfl))
  f284 := Tryz.func149.trans (congrArg some (by kernel_rfl))
  f285 := Tryz.func150.trans (congrArg some (by kernel_rfl))
  f286 := Tryz.func151.trans (congrArg some (by kernel_rfl))
  f317 := Tryz.func153.trans (congrArg some (by kernel_rfl))
  f318 := Tryz.func155.trans (congrArg some (by kernel_rfl))
  f319 := Tryz.func156.trans (congrArg some (by kernel_rfl))
  f320 := Tryz.func157.trans (congrArg some (by kernel_rfl))
  f337 := Tryz.func158.trans (congrArg some (by kernel_rfl))
  f338 := Tryz.func159.trans (congrArg some (by kernel_rfl))
  t0 := Tryz.underlying0
  a0 := Tryz.isAgg0
  z0 := Tryz.sizeOf0
  v0 := Tryz.zeroValue0
  t2 := Tryz.underlying2
  a2 := Tryz.isAgg2
  z2 := Tryz.sizeOf2
  v2 := Tryz.zeroValue2
  t3 := Tryz.underlying3
  a3 := Tryz.isAgg3
  z3 := Tryz.sizeOf3
  v3 := Tryz.zeroValue3
  t4 := Tryz.underlying4
  a4 := Tryz.isAgg4
  z4 := Tryz.sizeOf4
  v4 := Tryz.zeroValue4
  t5 := Tryz.underlying5
  a5 := Tryz.isAgg5
  z5 := Tryz.sizeOf5
  v5 := Tryz.zeroValue5
  t9 := Tryz.underlying9
  a9 := Tryz.isAgg9
  z9 := Tryz.sizeOf9
  v9 := Tryz.zeroValue9
  t20 := Tryz.underlying20
  a20 := Tryz.isAgg20
  z20 := Tryz.sizeOf20
  v20 := Tryz.zeroValue20
  t37 := Tryz.underlying113
  a37 := Tryz.isAgg113
  z37 := Tryz.sizeOf113
  v37 := Tryz.zeroValue113
  t46 := Tryz.underlying185
  a46 := Tryz.isAgg185
  z46 := Tryz.sizeOf185
  v46 := Tryz.zeroValue185
  t51 := Tryz.underlying175
  a51 := Tryz.isAgg175
  z51 := Tryz.sizeOf175
  v51 := Tryz.zeroValue175
  t53 := Tryz.underlying213
  a53 := Tryz.isAgg213
  z53 := Tryz.sizeOf213
  v53 := Tryz.zeroValue213
  t171 := Tryz.underlying212
  a171 := Tryz.isAgg212
  z171 := Tryz.sizeOf212
  v171 := Tryz.zeroValue212
  t173 := Tryz.underlying216
  a173 := Tryz.isAgg216
  z173 := Tryz.sizeOf216
  v173 := Tryz.zeroValue216
  t212 := Tryz.underlying221
  a212 := Tryz.isAgg221
  z212 := Tryz.sizeOf221
  v212 := Tryz.zeroValue221
  t213 := Tryz.underlying222
  a213 := Tryz.isAgg222
  z213 := Tryz.sizeOf222
  t232 := Tryz.underlying225
  a232 := Tryz.isAgg225
  z232 := Tryz.sizeOf225
  v232 := Tryz.zeroValue225
  t233 := Tryz.underlying226
  a233 := Tryz.isAgg226
  z233 := Tryz.sizeOf226
  v233 := Tryz.zeroValue226
  g17 := by kernel_rfl
  g18 := by kernel_rfl
  g19 := by kernel_rfl
  i0 := by kernel_rfl
  i2 := by kernel_rfl
  i3 := by kernel_rfl
  i4 := by kernel_rfl
  i5 := by kernel_rfl
  i9 := by kernel_rfl
  i20 := by kernel_rfl
  i37 := by kernel_rfl
  i46 := by kernel_rfl
  i51 := by kernel_rfl
  i53 := by kernel_rfl
  i171 := by kernel_rfl
  i173 := by kernel_rfl
  i212 := by kernel_rfl
  i232 := by kernel_rfl
  i233 := by kernel_rfl
  m17 := by kernel_rfl
  m18 := by kernel_rfl
  m19 := by kernel_rfl }
/-- the listed table of powers is there -/
def Pows (w : World) : Prop := Lib.TabIs Tryz.prog w "internal/strconv.uint64pow10" .u64 Lib.pow10Tab
theorem Pows.below {w w' : World} (h : Pows w) (hb : Below w.heap.size w w') : Pows w' := TabIs_below (g := 2) (by kernel_rfl) h hb
theorem below_grow {B : Nat} (w : World) (k : Nat) (os : Array Obj) (hB : B ≤ w.heap.size) : Below B w (Sort.grow (w.drewN k) os) := by
  refine ⟨rfl, rfl, rfl, ?_, fun i hi => ?_⟩
  · show w.heap.size ≤ (w.heap ++ os).size
    simp
  · show (w.heap ++ os)[i]? = w.heap[i]?
    exact Array.getElem?_append_left (by omega)
theorem itoa_any (n : Nat) (w : World) (hn : n ≤ 9223372036854775807) (hG : Pows w) :
    Calls Tryz.prog 118 #[.int .i64 n] w fun e w' => e = .returned (.string ⟨(Lib.decDigits n).toArray⟩) ∧ Below w.heap.size w w' := by
  refine (Any.strconv_Itoa itoaLays (n : Int) (by omega) (by omega) w hG).mono ?_
  rintro e w' ⟨rfl, k, os, rfl⟩
  exact ⟨by rw [Lib.itoa_nonneg], below_grow w k os (Nat.le_refl _)⟩
end Go.Proofs.YtpkomloblhbkiaaGreatDoor
