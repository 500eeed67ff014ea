/- the references of chapter 19: without. -/
import Derived.Test.YtojabnaabgbclaaNetSc
set_option linter.unusedVariables false
set_option linter.unusedSimpArgs false
namespace Go.Proofs.Ytojabnaabgbclaa
open Go.RowKit
/-- the first k letters, without the one at i -/
def keepL (L : List Letter) (i k : Nat) : List Letter := (L.take k).eraseIdx i
theorem keepL_zero (L : List Letter) (i : Nat) : keepL L i 0 = [] := by simp [keepL]
theorem keepL_ne {L : List Letter} {i k : Nat} {x : Letter} (h : L[k]? = some x) (hne : k ≠ i) : keepL L i (k + 1) = keepL L i k ++ [x] := by
  obtain ⟨hk, rfl⟩ := List.getElem?_eq_some_iff.1 h
  unfold keepL
  rw [List.take_succ_eq_append_getElem hk, List.eraseIdx_append]
  by_cases hlt : i < k
  · rw [if_pos (by simp; omega)]
  · rw [if_neg (by simp; omega), List.eraseIdx_of_length_le (l := L.take k) (by simp; omega), List.eraseIdx_of_length_le (l := [L[k]]) (by simp; omega)]
theorem keepL_eq {L : List Letter} {i : Nat} (hi : i < L.length) : keepL L i (i + 1) = keepL L i i := by
  unfold keepL
  rw [List.take_succ_eq_append_getElem hi, List.eraseIdx_append, if_neg (by simp; omega), List.eraseIdx_of_length_le (l := L.take i) (by simp; omega)]
  simp [Nat.min_eq_left (Nat.le_of_lt hi)]
theorem keepL_all (L : List Letter) (i : Nat) : keepL L i L.length = L.eraseIdx i := by simp [keepL]
theorem keepL_len (L : List Letter) (i k : Nat) : (keepL L i k).length ≤ k := by
  have := List.length_eraseIdx_le (L.take k) i
  simp only [List.length_take] at this
  unfold keepL
  omega
/-- without's loop: the net in its box, the result's box, the new net in a third one -/
def WSt (w : World) (L : List Letter) (A : Option Addr) (c : Nat) (s d l t : Int) (v : Value) (X : List Letter) (wr : World) : Prop :=
  Below w.heap.size w wr ∧ Blk wr w.heap.size 25 #[.slice A L.length c, .int .i64 s, .int .i64 d, .int .i64 l, .int .i64 t] ∧
  Blk wr (w.heap.size + 1) 25 #[.slice none 0 0, .int .i64 0, .int .i64 0, .int .i64 0, .int .i64 0] ∧
  Blk wr (w.heap.size + 1 + 1) 25 #[v, .int .i64 s, .int .i64 d, .int .i64 l, .int .i64 t] ∧
  ORow 27 encL 3 wr w.heap.size v X
theorem wst_next {w wr w4 : World} {L X : List Letter} {A : Option Addr} {c : Nat} {s d l t : Int} {v v4 : Value} {x : Letter} {cs : Array Value} (h : WSt w L A c s d l t v X wr)
    (hg : (wr.alloc (.cells cs 27)).drew.grownBy w4 v.ownBlock) (ho : ORow 27 encL 3 w4 w.heap.size v4 (X ++ [x])) :
    WSt w L A c s d l t v4 (X ++ [x]) (w4.setCell ⟨w.heap.size + 1 + 1, 0, none⟩ v4) := by
  obtain ⟨h1, h2, h3, h4, h5⟩ := h
  have e2 := (h2.alloc (.cells cs 27)).drew.grown hg (fun e => own_blk_ne h5 h2 (by decide) e.symm)
  have e3 := (h3.alloc (.cells cs 27)).drew.grown hg (fun e => own_blk_ne h5 h3 (by decide) e.symm)
  have e4 := (h4.alloc (.cells cs 27)).drew.grown hg (fun e => own_blk_ne h5 h4 (by decide) e.symm)
  have hb : Below w.heap.size w w4 := Below.grown ((h1.alloc h1.size _).drew) hg (by have := h1.size; simp; omega) (fun k e => (orow_lt h5 e).1)
  refine ⟨hb.setCell (by simp; omega) _, e2.far (by simp; omega) _, e3.far (by simp) _, ?_, own_far ho (own_blk_ne ho e4 (by decide)) _ _⟩
  simpa using e4.set_ 0 v4
set_option maxHeartbeats 2000000 in
theorem without_any (N : Net) (A : Option Addr) (c i : Nat) (w : World) (hS : SlR encL 3 w w.heap.size A N.way.length N.way) (hn : N.way.length ≤ 80) (hi : i < N.way.length) :
    Calls Try.prog 36 #[.agg #[.slice A N.way.length c, .int .i64 N.sent, .int .i64 N.delivered, .int .i64 N.lost, .int .i64 N.doubled], .int .i64 i] w fun e w' => ∃ v, e = .returned v ∧ NetOut w' w.heap.size v { N with way := N.way.eraseIdx i } ∧ Below w.heap.size w w' := by
  obtain ⟨i0, hi0, hz0, hz1, hz2⟩ := info_parts letter_info
  have HC : Hid (∀ W, Below w.heap.size w W → ∀ k x, N.way[k]? = some x → ∃ b off, A = some ⟨b, off, none⟩ ∧ b < w.heap.size ∧ W.cell? ⟨b, off + k * 3, none⟩ = some (.string x.fr) ∧ W.cell? ⟨b, off + k * 3 + 1, none⟩ = some (.string x.to) ∧ W.cell? ⟨b, off + k * 3 + 2, none⟩ = some (.string x.text)) := Lib.hid (fun W hb k x hx => by
    have hk := (List.getElem?_eq_some_iff.1 hx).1
    obtain ⟨b, off, e, hbl, hC⟩ := (hS.below hb).2.resolve_left (by omega)
    obtain ⟨q1, q2, q3⟩ := hC.letter hx
    exact ⟨b, off, e, hbl, q1, q2, q3⟩)
  obtain ⟨L, s, d, l, t⟩ := N
  simp only at hn hi HC ⊢
  clear hS
  go_enter Try.func36, Try.ntmps36
  go_wp2_with fail
  go_loopw [6] (fun iv wr => ∃ (k : Nat) (A3 : Option Addr) (c3 : Nat), k ≤ L.length ∧ iv = .int .i64 k ∧ Hid (WSt w L A c s d l t (.slice A3 (keepL L i k).length c3) (keepL L i k) wr)) (fun iv _ => L.length - (intOf iv).toNat)
  case atStart => exact ⟨0, none, 0, Nat.zero_le _, rfl, Lib.hid ⟨by go_grown, ((Blk.new _ _ _).alloc _).alloc _, (Blk.new_at (by simp) _ _).alloc _, Blk.new_at (by simp) _ _, by rw [keepL_zero]; exact orow_nil _ _⟩⟩
  case round =>
    obtain ⟨k, A3, c3, hk, rfl, HR⟩ := hrel
    have hkl := keepL_len L i k
    have q0 := HR.out.2.1.cells 0 _ rfl
    have r0 := HR.out.2.2.2.1.cells 0 _ rfl
    have rf := HR.out.2.2.2.1.frozen
    have hzw := HR.out.2.2.2.1.lt
    simp only [List.getElem_toArray, List.getElem_cons_zero] at q0 r0
    by_cases hlt : k < L.length
    · obtain ⟨x, hx⟩ : ∃ x, L[k]? = some x := ⟨L[k], List.getElem?_eq_getElem hlt⟩
      by_cases hki : k = i
      · subst hki
        have HF := Lib.hid (keepL_eq hlt)
        go_wp2_with fail
        go_roundw
        case rel => exact ⟨k + 1, A3, c3, by omega, by go_num, Lib.hid (by rw [HF.out]; exact HR.out)⟩
        case measure => simp [intOf]; omega
      · have HF := Lib.hid (keepL_ne hx hki)
        have t0 : ((k : Int) != (i : Int)) = true := by simp; omega
        obtain ⟨b, off, rfl, hbl, c0, c1, c2⟩ := HC.out wr HR.out.1 k x hx
        have hb3 : b < wr.heap.size := by omega
        have i0' : (0 : Int) ≤ (k : Int) := by omega
        have i1' : (k : Int) < (L.length : Int) := by omega
        have HO : Hid (ORow 27 encL 3 wr w.heap.size (.slice A3 (keepL L i k).length c3) (keepL L i k)) := Lib.hid HR.out.2.2.2.2
        clear hx
        go_wp2_with fail
        go_region_law (refine step_append_any _ rfl (.tmp 20) (.tmp 26) _ rfl w.heap.size _ i0 _ 3 48 Try.underlying23 hi0 hz0 hz1 hz2 rfl (by omega) (.slice A3 (keepL L i k).length c3) (keepL L i k).length (flat encL (keepL L i k)) (by simp [Act.eval]) (World.ownsRow.drew (World.ownsRow.alloc HO.out _)) (wr.heap.size + 1) (some ⟨wr.heap.size, 0, none⟩) 1 1 [.string x.fr, .string x.to, .string x.text] (by simp [Act.eval]) ((Reads.new_at (by simp) 27 #[.string x.fr, .string x.to, .string x.text] rfl).drew) (one_flat [x]) (by simp only [maxLen]; omega) (by omega) (by simp; omega) ?_; intro v1 w1 hown1 hg1 hat1; obtain ⟨A1, c1, rfl, _, _, _⟩ := own_form hown1; have hs1 := (((HR.out.2.2.2.1).alloc _).drew).grown hg1 (fun e => own_blk_ne HO.out HR.out.2.2.2.1 (by decide) e.symm); have x0 := hs1.cells 0 _ rfl; have x1 := hs1.frozen; have HN : Hid (WSt w L (some ⟨b, off, none⟩) c s d l t (.slice A1 ((keepL L i k).length + 1) c1) (keepL L i k ++ [x]) (w1.setCell ⟨w.heap.size + 1 + 1, 0, none⟩ (.slice A1 ((keepL L i k).length + 1) c1))) := Lib.hid (wst_next HR.out hg1 (orow_join hown1 _ (by simp) (by simp [flat, encL]))); clear hs1 hat1)
        all_goals go_wp2_with fail
        all_goals
          go_roundw
          case rel => exact ⟨k + 1, A1, c1, by omega, by go_num, Lib.hid (by rw [HF.out, List.length_append]; exact HN.out)⟩
          case measure => simp [intOf]; omega
    · obtain rfl : k = L.length := by omega
      have s0 := HR.out.2.2.1.cells 0 _ rfl
      have s1 := HR.out.2.2.1.cells 1 _ rfl
      have s2 := HR.out.2.2.1.cells 2 _ rfl
      have s3 := HR.out.2.2.1.cells 3 _ rfl
      have s4 := HR.out.2.2.1.cells 4 _ rfl
      have sf := HR.out.2.2.1.frozen
      have r1 := HR.out.2.2.2.1.cells 1 _ rfl
      have r2 := HR.out.2.2.2.1.cells 2 _ rfl
      have r3 := HR.out.2.2.2.1.cells 3 _ rfl
      have r4 := HR.out.2.2.2.1.cells 4 _ rfl
      simp only [List.getElem_toArray, List.getElem_cons_zero, List.getElem_cons_succ] at s0 s1 s2 s3 s4 r1 r2 r3 r4
      go_wp2_with (with_reducible refine end_at ?_)
      have h1 : wr.ownsRow w.heap.size 27 3 (.slice A3 (keepL L i L.length).length c3) (keepL L i L.length).length (flat encL (keepL L i L.length)) := HR.out.2.2.2.2
      have n1 := own_blk_ne h1 HR.out.2.2.1 (by decide)
      have hB := HR.out.1
      refine end_ret (v := .agg #[.slice A3 (keepL L i L.length).length c3, .int .i64 s, .int .i64 d, .int .i64 l, .int .i64 t]) (by simp [results, Try.results36, go_sem, s0, s1, s2, s3, s4]; try rfl) rfl ⟨_, rfl, ⟨A3, c3, by rw [keepL_all], ?_⟩, ?_⟩
      · simp only [keepL_all] at h1 n1 ⊢
        repeat' (first | (with_reducible exact h1) | (with_reducible refine own_far ?_ n1 _ _))
      · go_grown
end Go.Proofs.Ytojabnaabgbclaa
