/- the references of chapter 19: Deliver. -/
import Derived.Test.YtojabnaabgbclaaNetSf
set_option linter.unusedVariables false
set_option linter.unusedSimpArgs false
namespace Go.Proofs.Ytojabnaabgbclaa
open Go.RowKit
/-- the argument's box, and the results' -/
def DBox (w : World) (N : Net) (A : Option Addr) (c : Nat) (wr : World) : Prop :=
  Below w.heap.size w wr ∧ Blk wr w.heap.size 25 #[.slice A N.way.length c, .int .i64 N.sent, .int .i64 N.delivered, .int .i64 N.lost, .int .i64 N.doubled] ∧
  Blk wr (w.heap.size + 1) 27 #[.string ⟨#[]⟩, .string ⟨#[]⟩, .string ⟨#[]⟩] ∧
  Blk wr (w.heap.size + 1 + 1) 25 #[.slice none 0 0, .int .i64 0, .int .i64 0, .int .i64 0, .int .i64 0]
theorem DBox.below {w wr wx : World} {N : Net} {A : Option Addr} {c : Nat} (h : DBox w N A c wr) (hb : Below wr.heap.size wr wx) : DBox w N A c wx :=
  ⟨h.1.trans (hb.mono h.1.size), h.2.1.below hb h.2.1.lt, h.2.2.1.below hb h.2.2.1.lt, h.2.2.2.below hb h.2.2.2.lt⟩
theorem out3_no (w w' : World) (er : Int) (hb : Below w.heap.size w w') : Out3 w (noLetter, noNet, er) (.returned (.tuple #[.agg #[.string ⟨#[]⟩, .string ⟨#[]⟩, .string ⟨#[]⟩], .agg #[.slice none 0 0, .int .i64 0, .int .i64 0, .int .i64 0, .int .i64 0], .int .i64 er])) w' := ⟨_, rfl, NetOut.none_ _ _, hb⟩
set_option maxHeartbeats 2000000 in
set_option maxRecDepth 100000 in
theorem rdeliver_any (N : Net) (A : Option Addr) (c : Nat) (i : Int) (w : World) (hS : SlR encL 3 w w.heap.size A N.way.length N.way) (hn : N.way.length ≤ 80) (hok : ∀ l ∈ N.way, LetterOk l) :
    Calls Try.prog 19 #[.agg #[.slice A N.way.length c, .int .i64 N.sent, .int .i64 N.delivered, .int .i64 N.lost, .int .i64 N.doubled], .int .i64 i] w (Out3 w (stepF deliverF N i)) := by
  have HS : Hid (∀ W, Below w.heap.size w W → SlR encL 3 W W.heap.size A N.way.length N.way) := Lib.hid (fun W hb => (hS.below hb).more hb.size)
  have HC : Hid (∀ W, Below w.heap.size w W → ∀ k x, N.way[k]? = some x → ∃ b off, A = some ⟨b, off, none⟩ ∧ W.cell? ⟨b, off + k * 3, none⟩ = some (.string x.fr) ∧ W.cell? ⟨b, off + k * 3 + 1, none⟩ = some (.string x.to) ∧ W.cell? ⟨b, off + k * 3 + 2, none⟩ = some (.string x.text) ∧ b < w.heap.size) := Lib.hid (fun W hb k x hx => by
    have hk := (List.getElem?_eq_some_iff.1 hx).1
    obtain ⟨b, off, e, hbl, hC⟩ := (hS.below hb).2.resolve_left (by omega)
    obtain ⟨q1, q2, q3⟩ := hC.letter hx
    exact ⟨b, off, e, q1, q2, q3, hbl⟩)
  have HOk := Lib.hid hok
  have HF := Lib.hid (fine_of N)
  clear hS hok
  obtain ⟨R, hRr⟩ : ∃ R, stepF deliverF N i = R := ⟨_, rfl⟩
  rw [hRr]
  have HR := Lib.hid hRr
  clear hRr
  go_enter Try.func19, Try.ntmps19
  go_wp2_with fail
  refine (at_any N A c i _ (HS.out _ (by go_grown)) hn HOk.out).mono ?_
  rintro e w1 ⟨rfl, hb1⟩
  have HB1 : Hid (DBox w N A c w1) := Lib.hid ⟨Below.trans (by go_grown) (hb1.mono (by simp; omega)), (((Blk.new w _ _).alloc _).alloc _).below hb1 (by simp; omega), ((Blk.new_at (g := w.heap.size + 1) (by simp) _ _).alloc _).below hb1 (by simp), (Blk.new_at (g := w.heap.size + 1 + 1) (by simp) _ _).below hb1 (by simp)⟩
  clear hb1
  have l0 := HB1.out.2.2.1.cells 0 _ rfl
  have l1 := HB1.out.2.2.1.cells 1 _ rfl
  have l2 := HB1.out.2.2.1.cells 2 _ rfl
  have lf := HB1.out.2.2.1.frozen
  have s0 := HB1.out.2.2.2.cells 0 _ rfl
  have s1 := HB1.out.2.2.2.cells 1 _ rfl
  have s2 := HB1.out.2.2.2.cells 2 _ rfl
  have s3 := HB1.out.2.2.2.cells 3 _ rfl
  have s4 := HB1.out.2.2.2.cells 4 _ rfl
  have sf := HB1.out.2.2.2.frozen
  have n0 := HB1.out.2.1.cells 0 _ rfl
  have n1 := HB1.out.2.1.cells 1 _ rfl
  have n2 := HB1.out.2.1.cells 2 _ rfl
  have n3 := HB1.out.2.1.cells 3 _ rfl
  have n4 := HB1.out.2.1.cells 4 _ rfl
  simp only [List.getElem_toArray, List.getElem_cons_zero, List.getElem_cons_succ] at l0 l1 l2 s0 s1 s2 s3 s4 n0 n1 n2 n3 n4
  by_cases hE : atE N i = 0
  · obtain ⟨hc, h0, h1⟩ := atE_yes hE
    obtain ⟨j, rfl⟩ := Int.eq_ofNat_of_zero_le h0
    have hj : j < N.way.length := by omega
    have HSt := Lib.hid (stepF_yes (F := deliverF) hc hj)
    obtain ⟨f1, _, ⟨f2, f3⟩, _, _⟩ := HF.out hc
    rw [hE]
    clear hE hc h0 h1
    by_cases hfull : N.delivered = 1000000000
    · have hR : R = (noLetter, noNet, 260) := by rw [← HR.out, HSt.out]; simp [deliverF, hfull]
      subst hR
      have hB := HB1.out.1
      go_wp2_with (with_reducible refine end_at ?_)
      refine end_ret (v := .tuple #[.agg #[.string ⟨#[]⟩, .string ⟨#[]⟩, .string ⟨#[]⟩], .agg #[.slice none 0 0, .int .i64 0, .int .i64 0, .int .i64 0, .int .i64 0], .int .i64 260]) (by simp [results, Try.results19, go_sem, l0, l1, l2, s0, s1, s2, s3, s4]; try rfl) rfl (out3_no _ _ _ (by go_grown))
    · obtain ⟨x, hx⟩ : ∃ x, N.way[j]? = some x := ⟨N.way[j], List.getElem?_eq_getElem hj⟩
      have hR : R = (x, { N with way := N.way.eraseIdx j, delivered := N.delivered + 1 }, 0) := by rw [← HR.out, HSt.out]; simp [deliverF, hfull, hx]
      have HRR := Lib.hid hR
      have HX := Lib.hid hx
      have hl9 : N.delivered < 1000000000 := by omega
      clear hR hfull hx
      go_wp2_with fail
      refine (without_any N A c j w1 ((HS.out _ HB1.out.1)) hn hj).mono ?_
      rintro e w2 ⟨v, rfl, ⟨A3, c3, rfl, ho3⟩, hb3⟩
      have HB2 := Lib.hid (HB1.out.below hb3)
      have hsz := HB1.out.2.2.2.lt
      have hz2 := hb3.size
      have hzA : w.heap.size + 1 + 1 < w2.heap.size := by omega
      clear l0 l1 l2 lf s0 s1 s2 s3 s4 sf n0 n1 n2 n3 n4 hb3 HB1
      have HO3 := Lib.hid ho3
      clear ho3
      simp only
      go_wp2_with fail
      have hk8 := Blk.new w2 25 #[.slice A3 (N.way.eraseIdx j).length c3, .int .i64 N.sent, .int .i64 (N.delivered + 1), .int .i64 N.lost, .int .i64 N.doubled]
      have hD3 := HB2.out.below (wx := w2.alloc (.cells #[.slice A3 (N.way.eraseIdx j).length c3, .int .i64 N.sent, .int .i64 (N.delivered + 1), .int .i64 N.lost, .int .i64 N.doubled] 25)) (by go_grown)
      have hO4 : (w2.alloc (.cells #[.slice A3 (N.way.eraseIdx j).length c3, .int .i64 N.sent, .int .i64 (N.delivered + 1), .int .i64 N.lost, .int .i64 N.doubled] 25)).ownsRow w1.heap.size 27 3 (.slice A3 (N.way.eraseIdx j).length c3) (N.way.eraseIdx j).length (flat encL (N.way.eraseIdx j)) := World.ownsRow.alloc HO3.out _
      clear HB2 HO3
      generalize w2.alloc (.cells #[.slice A3 (N.way.eraseIdx j).length c3, .int .i64 N.sent, .int .i64 (N.delivered + 1), .int .i64 N.lost, .int .i64 N.doubled] 25) = w3 at *
      have HO4 := Lib.hid hO4
      have HD3 := Lib.hid hD3
      obtain ⟨b, off, rfl, c0, c1, c2, hbl⟩ := HC.out w3 hD3.1 j x HX.out
      have k0 := hk8.cells 0 _ rfl
      have k1 := hk8.cells 1 _ rfl
      have k2 := hk8.cells 2 _ rfl
      have k3 := hk8.cells 3 _ rfl
      have k4 := hk8.cells 4 _ rfl
      have l0 := hD3.2.2.1.cells 0 _ rfl
      have l1 := hD3.2.2.1.cells 1 _ rfl
      have l2 := hD3.2.2.1.cells 2 _ rfl
      have lf := hD3.2.2.1.frozen
      have s0 := hD3.2.2.2.cells 0 _ rfl
      have s1 := hD3.2.2.2.cells 1 _ rfl
      have s2 := hD3.2.2.2.cells 2 _ rfl
      have s3 := hD3.2.2.2.cells 3 _ rfl
      have s4 := hD3.2.2.2.cells 4 _ rfl
      have sf := hD3.2.2.2.frozen
      have n0 := hD3.2.1.cells 0 _ rfl
      simp only [List.getElem_toArray, List.getElem_cons_zero, List.getElem_cons_succ] at k0 k1 k2 k3 k4 l0 l1 l2 s0 s1 s2 s3 s4 n0
      have i0 : (0 : Int) ≤ (j : Int) := by omega
      have i1 : (j : Int) < (N.way.length : Int) := by omega
      have ha : w2.heap.size ≠ w.heap.size + 1 := by omega
      have hb : w2.heap.size ≠ w.heap.size + 1 + 1 := by omega
      have hc : b ≠ w.heap.size + 1 := by omega
      have hd : b ≠ w.heap.size + 1 + 1 := by omega
      clear hk8 hO4 hD3
      go_region
      all_goals go_wp2_with (with_reducible refine end_at ?_)
      all_goals
        have hB := HD3.out.1
        refine end_ret (v := .tuple #[.agg #[.string x.fr, .string x.to, .string x.text], .agg #[.slice A3 (N.way.eraseIdx j).length c3, .int .i64 N.sent, .int .i64 (N.delivered + 1), .int .i64 N.lost, .int .i64 N.doubled], .int .i64 0]) (by simp [results, Try.results19, go_sem, l0, l1, l2, s0, s1, s2, s3, s4, hzA]; try rfl) rfl ?_
        rw [HRR.out]
        refine ⟨_, rfl, ⟨A3, c3, rfl, own_base (base := w1.heap.size) ?_ (by omega)⟩, by go_grown⟩
        have h1 := HO4.out
        repeat' (first | (with_reducible exact h1) | (with_reducible refine World.ownsRow.drew ?_) | (with_reducible refine ownsRow_setCell_below ?_ (by first | (simp; done) | (simp; omega)) _))
  · have hR : R = (noLetter, noNet, atE N i) := by rw [← HR.out, stepF_no hE]
    subst hR
    have t0 : (atE N i == 0) = false := by simpa using hE
    have t1 : (atE N i != 0) = true := by simpa using hE
    clear hE
    have hB := HB1.out.1
    go_wp2_with (with_reducible refine end_at ?_)
    refine end_ret (v := .tuple #[.agg #[.string ⟨#[]⟩, .string ⟨#[]⟩, .string ⟨#[]⟩], .agg #[.slice none 0 0, .int .i64 0, .int .i64 0, .int .i64 0, .int .i64 0], .int .i64 (atE N i)]) (by simp [results, Try.results19, go_sem, l0, l1, l2, s0, s1, s2, s3, s4]; try rfl) rfl (out3_no _ _ _ (by go_grown))
end Go.Proofs.Ytojabnaabgbclaa
