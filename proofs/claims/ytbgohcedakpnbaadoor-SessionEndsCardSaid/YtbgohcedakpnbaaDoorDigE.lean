/- digest.Sum. -/
import Derived.Test.YtbgohcedakpnbaaDoorDigD
import Derived.Test.YtbgohcedakpnbaaDoorRowIn
set_option linter.unusedVariables false
namespace Go.Proofs.YtbgohcedakpnbaaDoor
open Go.RowKit Go.Shelf
attribute [local go_sem] Oper.semAt_some
def foldT (pre : List ByteArray) : List Nat := pre.foldl stepT startL
theorem foldT_state (pre : List ByteArray) : State (foldT pre) := by
  rcases List.eq_nil_or_concat pre with rfl | ⟨l, x, rfl⟩
  · exact startL_state
  · rw [foldT, List.concat_eq_append, List.foldl_append]; exact stepT_state _ _
theorem foldT_snoc (pre : List ByteArray) (x : ByteArray) : foldT (pre ++ [x]) = stepT (foldT pre) x := by simp [foldT]
theorem foldT_chunks (s : ByteArray) (k : Nat) (hk : 64 * k ≤ s.size) : foldT ((chunksOf s).take k) = foldB startL s k := by
  induction k with
  | zero => rfl
  | succ k ih =>
    rw [← chunks_succ s (by omega), foldT_snoc, ih (by omega), foldB, stepT, if_pos]
    · rfl
    · rw [chunkOf, size_extract]; omega
theorem foldT_all (s : ByteArray) : foldT (chunksOf s) = foldB startL s (s.size / 64) := by
  rw [← foldT_chunks s (s.size / 64) (by omega), List.take_of_length_le (by rw [chunksOf_len]; omega)]
def sumF (s : ByteArray) : ByteArray := if s.size ≤ 1000000000 then sumS s else ByteArray.empty
theorem sum_big (s : ByteArray) (w : World) (hs : 1000000000 < s.size) (hm : s.size ≤ maxLen) :
    Calls Tryd.prog 97 #[.string s] w fun r w' => r = .returned (.string ByteArray.empty) ∧ Below w.heap.size w w' := by
  unfold maxLen at hm
  go_enter Tryd.func97, Tryd.ntmps97
  go_wp2_with fail
  refine (pad_no s.size _ (.inr (by omega))).mono ?_
  rintro e w1 ⟨rfl, rfl⟩
  go_wp2_with fail
  go_ret
  exact ⟨rfl, Below.refl _ _⟩
/-- a state in a box -/
def St (W : World) (g : Nat) (L : List Nat) : Prop := Blk W g 143 ((ints L).map vI).toArray
theorem st_size {L : List Nat} (h : State L) : ((ints L).map vI).toArray.size = 8 := by simp [ints, h.1]
theorem st_one (L : List Nat) : ((ints L).map vI).toArray.all (·.oneCell') = true := all_oneCell_toArray (fun v hv => spread_one hv)
theorem info8 {L : List Nat} (h : State L) : (Tryd.prog.info? 143).map (·.size) = some ((ints L).map vI).toArray.size := by rw [st_size h]; kernel_rfl
theorem rounds_of {w W : World} (h : Rounds w) (hb : Below w.heap.size w W) : Rounds W := h.below hb h.pos
set_option maxHeartbeats 1000000 in
set_option maxRecDepth 100000 in
theorem sum_in (s : ByteArray) (w : World) (hs : s.size ≤ 1000000000) (hG : Rounds w) :
    Calls Tryd.prog 97 #[.string s] w fun r w' => r = .returned (.string (sumS s)) ∧ Below w.heap.size w w' := by
  have HS := Lib.hid hs
  have HG := Lib.hid hG
  have hp := pad_bounds s.size
  have hpw := pad_whole s.size
  obtain ⟨b, hb⟩ : ∃ b, padB s.size = b := ⟨_, rfl⟩
  rw [hb] at hp hpw
  have HP := Lib.hid (And.intro hb (And.intro hp hpw))
  clear hs hG hp hpw hb
  refine (callsIn_wide (n := 10)).1 ?_
  refine callsIn_of_wp_marks Tryd.func97 rfl trivial ?_ rfl
  simp only [Tryd.ntmps97, List.size_toArray, List.length_cons, List.length_nil, Nat.reduceAdd, Nat.reduceSub, Array.replicate_succ, Array.replicate_zero, List.push_toArray, List.append_toArray, List.nil_append, List.cons_append]
  gi_wp2_with fail
  refine ⟨trivial, ?_⟩
  gi_at_call 123
  refine (callsIn_wide.2 (pad_in s.size _ HS.out)).mono ?_
  rintro e w1 ⟨rfl, hb1⟩
  rw [HP.out.1]
  gi_wp2_with fail
  refine ⟨trivial, ?_⟩
  gi_at_call 124
  refine (callsIn_wide.2 (start_any _)).mono ?_
  rintro e w2 ⟨rfl, hb2⟩
  have hB2 := hb1.trans (hb2.mono hb1.size)
  have h12 := hb1.size
  have h22 := hb2.size
  clear hb1 hb2
  gi_wp2_with (refine wpListIn_store_row rfl 143 (.tmp 5) (.tmp 17) rfl w2.heap.size ((ints startL).map vI).toArray rfl rfl 143 #[.int .i64 0, .int .i64 0, .int .i64 0, .int .i64 0, .int .i64 0, .int .i64 0, .int .i64 0, .int .i64 0] (Blk.new _ _ _) (info8 startL_state) (by rw [st_size startL_state]; rfl) (st_one _) ?_; rw [World.setRow_alloc_new])
  refine ⟨trivial, ?_⟩
  gi_at_call 125
  refine (blocks_in Fence.wide _ trivial rfl s b _).mono ?_
  rintro e w3 ⟨rfl, rfl⟩
  gi_wp2_with fail
  have hbx1 := ((Blk.new_at (g := w2.heap.size + 1) (w := w2.alloc (.cells ((ints startL).map vI).toArray 143)) (by simp) 9 #[.string s]).alloc (.cells #[.string b] 9))
  have hbx2 := Blk.new_at (g := w2.heap.size + 1 + 1) (w := (w2.alloc (.cells ((ints startL).map vI).toArray 143)).alloc (.cells #[.string s] 9)) (by simp) 9 #[.string b]
  have hst : St (((w2.alloc (.cells ((ints startL).map vI).toArray 143)).alloc (.cells #[.string s] 9)).alloc (.cells #[.string b] 9)) w2.heap.size (foldT []) := ((Blk.new _ _ _).alloc _).alloc _
  have hB0 : Below w.heap.size w (((w2.alloc (.cells ((ints startL).map vI).toArray 143)).alloc (.cells #[.string s] 9)).alloc (.cells #[.string b] 9)) := by go_grown
  generalize hW0 : ((w2.alloc (.cells ((ints startL).map vI).toArray 143)).alloc (.cells #[.string s] 9)).alloc (.cells #[.string b] 9) = W0 at hbx1 hbx2 hst hB0 ⊢
  have hsz0 : W0.heap.size = w2.heap.size + 1 + 1 + 1 := by rw [← hW0]; simp
  clear hW0
  refine wpIn_rangeFunc_ownH rfl (by omega) (gf := 138) (lb := #[.pointer (some ⟨w2.heap.size + 1, 0, none⟩), .pointer (some ⟨w2.heap.size + 1 + 1, 0, none⟩)]) rfl trivial (enters_of Tryd.func138 (by kernel_rfl) rfl)
    (encs := fun x => #[.string x]) (Kp := Kept (w2.heap.size + 1 + 1)) (S := fun xs => xs = chunksOf (s ++ b)) (Sp := fun pre => pre <+: chunksOf (s ++ b)) (N := (chunksOf (s ++ b)).length) (w0 := W0)
    (fun l J Jx W hW hJ hJx hY h0 => blocks1_in Fence.wide _ trivial rfl (by omega) l (w2.heap.size + 1) (w2.heap.size + 1 + 1) s b J Jx (Kept (w2.heap.size + 1 + 1)) (Kept.refl _) (fun _ _ _ => Kept.trans) (fun A B h => h.cell 0) hY W
      ((hW.cell (p := ⟨w2.heap.size + 1, 0, none⟩) (by simp; omega)).trans (hbx1.cells 0 _ rfl)) ((hW.cell (p := ⟨w2.heap.size + 1 + 1, 0, none⟩) (by simp; omega)).trans (hbx2.cells 0 _ rfl)) HP.out.2.2 HS.out HP.out.2.1.2 h0)
    Kept.trans (fun W l o o' hl h1 h2 h3 => Kept.below (belowK_b (n₀ := w2.heap.size + 1 + 1 + 1) (w := W0) (by omega) W l o o' hl h1 h2 h3) (by omega)) (Below.refl _ _) (fun _ => rfl)
    (fun pre W => St W w2.heap.size (foldT pre) ∧ Below w.heap.size w W ∧ w2.heap.size + 1 + 1 + 1 ≤ W.heap.size)
    (fun _ _ _ => False)
    (fun st W W' row hs hg hr => ⟨blk_own _ _ (fun (_ : Unit) => _) () W W' row hs.1 hg (fun r e => (hr r e).2), hs.2.1.grown hg hs.2.1.size (fun k e => by have := (hr k e).1; omega), Nat.le_trans hs.2.2 hg.size⟩)
    (fun _ _ _ _ _ h _ _ => h.elim)
    ⟨hst, hB0, by omega⟩
    (fun x a' W => a' = { tmps := #[.string s, undef, .string ByteArray.empty, .string b, .bool true, .pointer (some ⟨w2.heap.size, 0, none⟩), .string x, undef, undef, .tuple #[.string b, .bool true], .string s, .int .i64 s.size, .tuple #[.string b, .bool true], .string b, .bool true, .bool true, .bool false, .agg ((ints startL).map vI).toArray, .string s, .string b, .func (.func 138) #[] #[.pointer (some ⟨w2.heap.size + 1, 0, none⟩), .pointer (some ⟨w2.heap.size + 1 + 1, 0, none⟩)], .string x, undef, undef, undef, undef, undef, undef, undef, undef, undef, undef, undef, undef], defers := [] })
    (fun _ _ _ _ _ _ h _ _ => h)
    ?assign ?body ?done ?stop
  case assign =>
    rintro l pre x W K hI hK
    gi_wp2
    exact hK _ _ (KeepsFrom.refl _ _) (Kept.refl _ _) hI rfl
  case body =>
    rintro l pre x a' W hl _ ⟨hR, hB, hzW⟩ rfl hlt
    have HR := Lib.hid hR
    have hst := foldT_state pre
    have HST := Lib.hid hst
    have HGW := Lib.hid (rounds_of HG.out hB)
    clear hR hst hbx1 hbx2
    gi_wp2_with (refine wpListIn_load_row rfl 143 (.tmp 5) rfl w2.heap.size rfl 143 ((ints (foldT pre)).map vI).toArray (0, 0) (.array 8 3) HR.out (by kernel_rfl) rfl (info8 HST.out) ?_)
    refine ⟨trivial, ?_⟩
    gi_at_call 126
    refine (CallsIn.inRound l (callsIn_wide.2 (step_tot (foldT pre) x W HGW.out HST.out))).mono ?_
    rintro e W1 ⟨rfl, hb1⟩
    have hlt1 := HR.out.lt
    have HR1 := Lib.hid (HR.out.below hb1 hlt1)
    have HST2 := Lib.hid (stepT_state (foldT pre) x)
    have hB1 := hB.trans (hb1.mono hB.size)
    have HKO := Lib.hid (keepsOthers_below hb1)
    have HKe := Lib.hid (Kept.below (B := w2.heap.size + 1 + 1) hb1 (by omega))
    have hs1 := hb1.size
    clear hb1
    unfold stV
    gi_wp2_with (refine wpListIn_store_row rfl 143 (.tmp 5) (.tmp 26) rfl w2.heap.size ((ints (stepT (foldT pre) x)).map vI).toArray rfl rfl 143 ((ints (foldT pre)).map vI).toArray HR1.out (info8 HST2.out) (by rw [st_size HST.out, st_size HST2.out]) (st_one _) ?_)
    refine ⟨(HKO.out.trans (keepsOthers_setRow _ _ _ _ _ _ HR1.out)).from _, HKe.out.trans (Kept.setRow (by omega) _), ?_, below_setRow hB1 (by omega) _, by simp; omega⟩
    rw [foldT_snoc]
    exact setRow_heap _ _ _ _ _ _ HR1.out
  case done =>
    rintro D ys W hD rfl ⟨hR, hB, hzW⟩ hK
    have hst := foldT_state (chunksOf (s ++ b))
    have hsl := slr_newT (B := W.heap.size) (foldT (chunksOf (s ++ b))) hR (by omega)
    rw [hst.1] at hsl
    have HSL := Lib.hid (And.intro hsl hst.2)
    have HF := Lib.hid (foldT_all (s ++ b))
    clear hst hsl hR
    gi_wp2_with fail
    refine ⟨trivial, ?_⟩
    gi_at_call 101
    refine (callsIn_wide.2 (join_high (foldT (chunksOf (s ++ b))) _ 8 8 W HSL.out.1 (by omega) HSL.out.2 (by omega))).mono ?_
    rintro e W1 ⟨rfl, hb1⟩
    have hK1 := (hb1.block D (Array.getElem?_eq_some_iff.1 hK).1).trans hK
    have hv : joinW (foldT (chunksOf (s ++ b))) true = sumS s := by
      rw [HF.out, sumS, stateS, HP.out.1, ByteArray.size_append]
    have HV := Lib.hid hv
    have hB1 := hB.trans (hb1.mono hB.size)
    clear hb1 hv
    gi_wp2_with fail
    refine ⟨by simp, .inl ⟨_, _, rfl, run_takeDeferred hK1, ?_⟩⟩
    exact ⟨_, results_tmp rfl _ _ _, by simp; rw [HV.out], hB1.trans (belowK_b (n₀ := w.heap.size) (w := W0) hB0.size W1 D _ _ hD hK1 rfl rfl)⟩
  case stop =>
    rintro D cd pre W hD hpre h hK0
    exact h.elim
end Go.Proofs.YtbgohcedakpnbaaDoor
