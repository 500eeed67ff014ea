/- chapters 13 and 14's references: Sync, body, Get, deed. -/
import Derived.Test.YtefodifmfjpnlaaTwinS4
set_option linter.unusedVariables false
namespace Go.Proofs.Ytefodifmfjpnlaa
open Go.RowKit
theorem ones_all (m : Nat) : List.replicate m (1 : Int) ++ List.replicate (m - m) 0 = List.replicate m 1 := by simp
theorem sync_big {p : Plat} (h : 1000 < p.cache.length) : syncF p = (noPlat, 1) := by
  unfold syncF settleF
  rw [if_neg]
  intro hc
  have := ((checkP_iff p).1 hc).2.2.1
  omega
theorem int_info2 : (Try.prog.info? 3).map (fun i => (i.zero, i.size, i.bytes)) = some (some (.int .i64 0), 1, 8) := by kernel_rfl
set_option maxHeartbeats 1000000 in
theorem refsync_any (p : Plat) (A A' : Option Addr) (n m c d : Nat) (w : World) (hP : PlatAt w w.heap.size A n A' m p) (hn9 : n ≤ 1000) (hm9 : m ≤ 1000) :
    Calls Try.prog 57 #[.agg #[.slice A n c, .slice A' m d]] w (Out2P w (syncF p)) := by
  have HP := hP.pre
  clear hP
  have hmki := fun W => run_mkrow (P := Try.prog) 38 3 (.int .i64 0) 8 Try.underlying38 int_info2 rfl m (by omega) (by omega) W
  generalize hg : syncF p = rr
  have HG := Lib.hid hg
  clear hg
  go_enter Try.func57, Try.ntmps57
  go_wp2_with fail
  clear hmki
  have hX0 := (((Blk.new w 25 #[.slice A n c, .slice A' m d]).alloc (.cells #[.slice none 0 0, .slice none 0 0] 25)).alloc (.cells (List.replicate m (Value.int .i64 0)).toArray 3))
  have hY0 := ((Blk.new_at (w := w.alloc (.cells #[.slice A n c, .slice A' m d] 25)) (g := w.heap.size + 1) (by simp) 25 #[.slice none 0 0, .slice none 0 0]).alloc (.cells (List.replicate m (Value.int .i64 0)).toArray 3))
  have hO0 : Row vI (((w.alloc (.cells #[.slice A n c, .slice A' m d] 25)).alloc (.cells #[.slice none 0 0, .slice none 0 0] 25)).alloc (.cells (List.replicate m (Value.int .i64 0)).toArray 3)) (w.heap.size + 1 + 1) 3 (List.replicate m (0 : Int)) := by
    have := Row.new (f := vI) ((w.alloc (.cells #[.slice A n c, .slice A' m d] 25)).alloc (.cells #[.slice none 0 0, .slice none 0 0] 25)) 3 m 0
    simpa [vI] using this
  go_loopw [5] (fun i wr => ∃ k : Nat, k ≤ m ∧ i = .int .i64 k ∧ Below w.heap.size w wr ∧ Hid (Blk wr w.heap.size 25 #[.slice A n c, .slice A' m d]) ∧ Hid (Blk wr (w.heap.size + 1) 25 #[.slice none 0 0, .slice none 0 0]) ∧ Row vI wr (w.heap.size + 1 + 1) 3 (List.replicate k 1 ++ List.replicate (m - k) 0)) (fun i _ => m - (intOf i).toNat)
  case atStart => exact ⟨0, Nat.zero_le _, rfl, by go_grown, hX0, hY0, by simpa using hO0⟩
  case round =>
    obtain ⟨k, hk, rfl, hBr, HX, HY, hO⟩ := hrel
    have hol := hO.lt
    clear hX0 hY0 hO0
    by_cases hlt : k < m
    · have o0 := hO.get (k := k) (List.getElem?_eq_getElem (by simp; omega))
      simp only [vI] at o0
      generalize (List.replicate k (1 : Int) ++ List.replicate (m - k) 0)[k]'_ = ok at o0
      have fo := hO.free k
      have HR := Lib.hid hO
      have HBr := Lib.hid hBr
      clear hO hBr
      go_wp2
      go_roundw
      case rel =>
        refine ⟨k + 1, by omega, by go_num, by have := HBr.out; go_grown, HX.out.far (by first | (simp; done) | (simp; omega)) _, HY.out.far (by first | (simp; done) | (simp; omega)) _, ?_⟩
        rw [← ones_set k m hlt]
        exact HR.out.set_ k 1
      case measure => simp [intOf]; omega
    · obtain rfl : k = m := by omega
      rw [ones_all] at hO
      have x0 := HX.out.cells 0 _ rfl
      have x1 := HX.out.cells 1 _ rfl
      simp only [List.getElem_toArray, List.getElem_cons_zero, List.getElem_cons_succ] at x0 x1
      have HFS : Hid (∀ W, Below wr.heap.size wr W → SlR encI 1 W W.heap.size (some ⟨w.heap.size + 1 + 1, 0, none⟩) k (List.replicate k 1)) := by
        intro W hb
        have h := hO.below hb hO.lt
        have := h.slr (B := W.heap.size) h.lt
        rwa [List.length_replicate] at this
      go_wp2_with fail
      refine (refcrash_ones p A A' _ n k c d _ _ (HP.step hBr) hn9 hm9 HFS).mono ?_
      rintro e w1 ⟨v, rfl, ⟨A1, c1, A2, c2, rfl, h1, h2⟩, hb1⟩
      rw [HG.out] at h1 h2 ⊢
      have hY1 := HY.out.below hb1 HY.out.lt
      have hB1 := hBr.trans (hb1.mono hBr.size)
      have y0 := hY1.cells 0 _ rfl
      have y1 := hY1.cells 1 _ rfl
      have yf := hY1.frozen
      have hyl := hY1.lt
      simp only [List.getElem_toArray, List.getElem_cons_zero, List.getElem_cons_succ] at y0 y1
      have n1 := own_blk_ne h1 hY1 (by decide)
      have n2 := own_blk_ne h2 hY1 (by decide)
      have HO := Lib.hid (And.intro (And.intro (own_base (base' := w.heap.size) h1 hBr.size) (own_base (base' := w.heap.size) h2 hBr.size)) (And.intro n1 n2))
      obtain ⟨q, er⟩ := rr
      dsimp only at HO ⊢
      clear hb1 h1 h2 n1 n2 hY1 x0 x1
      go_wp2_with (with_reducible refine end_at ?_)
      refine end_ret (v := .tuple #[.agg #[.slice A1 q.sectors.length c1, .slice A2 q.cache.length c2], .int .i64 er]) (by simp [results, Try.results57, go_sem, y0, y1]; try rfl) rfl ?_
      obtain ⟨⟨h1, h2⟩, n1, n2⟩ := HO.out
      exact ⟨_, rfl, ⟨A1, c1, A2, c2, rfl, own_far (own_far h1 n1 _ _) n1 _ _, own_far (own_far h2 n2 _ _) n2 _ _⟩, by go_grown⟩
def bodyAt (m : ByteArray) (i : Int) : Int × Bool := if (bodyF m).2 = true then (i + (bodyF m).1, true) else (0, false)
set_option maxHeartbeats 400000 in
theorem refbody_any (m : ByteArray) (i : Int) (w : World) (h0 : 0 ≤ i) (h1 : i < 1000) :
    Calls Try.prog 44 #[.string m, .int .i64 i] w fun e w' => e = .returned (.tuple #[.int .i64 (bodyAt m i).1, .bool (bodyAt m i).2]) ∧ w = w' := by
  have t0 : (m.toList == [48]) = decide (m = ⟨#[48]⟩) := by
    rw [Bool.eq_iff_iff]
    simp only [beq_iff_eq, decide_eq_true_eq]
    exact ⟨fun h => bytes_ext (by rw [h, list0]), fun h => by rw [h, list0]⟩
  have t1 : (m.toList == [49]) = decide (m = ⟨#[49]⟩) := by
    rw [Bool.eq_iff_iff]
    simp only [beq_iff_eq, decide_eq_true_eq]
    exact ⟨fun h => bytes_ext (by rw [h, list1]), fun h => by rw [h, list1]⟩
  rcases bodyF_cases m with ⟨hm, hb⟩ | ⟨hm, hb⟩ | ⟨hm0, hm1, hb⟩
  · have e : bodyAt m i = (i + 1, true) := by unfold bodyAt; rw [hb]; rfl
    rw [e]
    have q0 : (m.toList == [48]) = true := by rw [t0, hm]; rfl
    clear t0 t1 hm hb e
    go_enter Try.func44, Try.ntmps44
    go_wp2
    go_ret2
    exact ⟨rfl, rfl⟩
  · have e : bodyAt m i = (i + 2, true) := by unfold bodyAt; rw [hb]; rfl
    rw [e]
    have q0 : (m.toList == [48]) = false := by rw [t0, hm]; decide
    have q1 : (m.toList == [49]) = true := by rw [t1, hm]; rfl
    clear t0 t1 hm hb e
    go_enter Try.func44, Try.ntmps44
    go_wp2
    go_ret2
    exact ⟨rfl, rfl⟩
  · have e : bodyAt m i = (0, false) := by unfold bodyAt; rw [hb]; rfl
    rw [e]
    have q0 : (m.toList == [48]) = false := by rw [t0]; simpa using hm0
    have q1 : (m.toList == [49]) = false := by rw [t1]; simpa using hm1
    clear t0 t1 hm0 hm1 hb e
    go_enter Try.func44, Try.ntmps44
    go_wp2
    go_ret2
    exact ⟨rfl, rfl⟩
end Go.Proofs.Ytefodifmfjpnlaa
