/- the references of chapter 19: Name, Letter, number, Check. -/
import Derived.Test.YtojabnaabgbclaaNetBig
set_option linter.unusedVariables false
set_option linter.unusedSimpArgs false
namespace Go.Proofs.Ytojabnaabgbclaa
open Go.RowKit
set_option maxHeartbeats 1000000 in
theorem rname_any (s : ByteArray) (hs : s.size ≤ 140737488351232) (w : World) :
    Calls Try.prog 41 #[.string s] w fun e w' => e = .returned (.bool (nameB s)) ∧ w = w' := by
  go_enter Try.func41, Try.ntmps41
  go_wp2
  go_loop [3] (fun i => ∃ k : Nat, k ≤ s.size ∧ i = .int .i64 k ∧ Hid (okUpto s k = true)) (fun i => s.size - (intOf i).toNat)
  case atStart => exact ⟨0, Nat.zero_le _, rfl, okUpto_zero s⟩
  case round =>
    obtain ⟨k, hk, rfl, HK⟩ := hrel
    by_cases hlt : k < s.size
    · have hno := nameB_no s k hlt
      have HN := Lib.hid hno
      clear hno
      have h256 : s[k].toNat < 256 := s[k].toNat_lt
      go_wp2
      all_goals first
        | (go_ret; exact ⟨ret_bool (HN.out (by simp only [okb]; simp at *; omega)).symm, rfl⟩)
        | (go_round
           case rel => exact ⟨k + 1, by omega, by go_num, by unfold Hid; rw [okUpto_succ s k hlt, HK.out]; simp only [okb]; simp at *; omega⟩
           case measure => simp [intOf]; omega)
    · obtain rfl : k = s.size := by omega
      by_cases h1 : 1 ≤ s.size
      · by_cases h2 : s.size ≤ 20
        · go_wp2
          go_ret
          exact ⟨ret_bool (by simp [nameB, HK.out, h1, h2]; omega), rfl⟩
        · go_wp2
          go_ret
          exact ⟨ret_bool (by simp [nameB, h2]; omega), rfl⟩
      · go_wp2
        go_ret
        exact ⟨ret_bool (by simp [nameB]; omega), rfl⟩
theorem number_any (x : Int) (w : World) :
    Calls Try.prog 37 #[.int .i64 x] w fun e w' => e = .returned (.bool (inB x)) ∧ w = w' := by
  by_cases h1 : 0 ≤ x
  · by_cases h2 : x ≤ 1000000000
    · go_enter Try.func37, Try.ntmps37
      go_wp2
      go_ret
      exact ⟨ret_bool (by simp [inB, h1, h2]), rfl⟩
    · go_enter Try.func37, Try.ntmps37
      go_wp2
      go_ret
      exact ⟨ret_bool (by simp [inB, h2]), rfl⟩
  · go_enter Try.func37, Try.ntmps37
    go_wp2
    go_ret
    exact ⟨ret_bool (by simp [inB]; omega), rfl⟩
/-- the error of a letter -/
def letterE (l : Letter) : Int := if addrB l = true then if l.text.size ≤ 4000 then 0 else 2 else 1
theorem letterE_ok (l : Letter) : (letterE l = 0) ↔ letterB l = true := by
  unfold letterE letterB
  by_cases h1 : addrB l = true <;> by_cases h2 : l.text.size ≤ 4000 <;> simp [h1, h2]
set_option maxHeartbeats 1000000 in
theorem rletter_any (l : Letter) (hl : LetterOk l) (w : World) :
    Calls Try.prog 34 #[.agg #[.string l.fr, .string l.to, .string l.text]] w fun e w' => e = .returned (.int .i64 (letterE l)) ∧ Below w.heap.size w w' := by
  obtain ⟨o1, o2, o3⟩ := hl
  simp only [StrOk] at o1 o2 o3
  have HE := Lib.hid (rfl : letterE l = letterE l)
  cases h1 : nameB l.fr with
  | false =>
    have hv : letterE l = 1 := by simp [letterE, addrB, h1]
    rw [hv]
    go_enter Try.func34, Try.ntmps34
    go_wp2_with fail
    refine (rname_any l.fr o1 _).mono ?_
    rintro e w1 ⟨rfl, rfl⟩
    rw [h1]
    go_wp2_with fail
    go_ret
    exact ⟨rfl, by go_grown⟩
  | true =>
    cases h2 : nameB l.to with
    | false =>
      have hv : letterE l = 1 := by simp [letterE, addrB, h1, h2]
      rw [hv]
      go_enter Try.func34, Try.ntmps34
      go_wp2_with fail
      refine (rname_any l.fr o1 _).mono ?_
      rintro e w1 ⟨rfl, rfl⟩
      rw [h1]
      go_wp2_with fail
      refine (rname_any l.to o2 _).mono ?_
      rintro e w1 ⟨rfl, rfl⟩
      rw [h2]
      go_wp2_with fail
      go_ret
      exact ⟨rfl, by go_grown⟩
    | true =>
      by_cases h3 : l.text.size ≤ 4000
      all_goals
        have hv : letterE l = (if l.text.size ≤ 4000 then 0 else 2) := by simp [letterE, addrB, h1, h2]
        simp only [h3, if_true, if_false] at hv
        rw [hv]
        go_enter Try.func34, Try.ntmps34
        go_wp2_with fail
        refine (rname_any l.fr o1 _).mono ?_
        rintro e w1 ⟨rfl, rfl⟩
        rw [h1]
        go_wp2_with fail
        refine (rname_any l.to o2 _).mono ?_
        rintro e w1 ⟨rfl, rfl⟩
        rw [h2]
        go_wp2_with fail
        go_ret
        exact ⟨rfl, by go_grown⟩
theorem checkB_lets (N : Net) (h : upL N.way N.way.length = true) (h60 : N.way.length ≤ 60) (hi : (inB N.sent && (inB N.delivered && (inB N.lost && inB N.doubled))) = true) : checkB N = (N.sent + N.doubled == N.delivered + N.lost + N.way.length) := by
  simp only [Bool.and_eq_true, inB, decide_eq_true_eq] at hi
  obtain ⟨h1, h2, h3, h4⟩ := hi
  exact checkB_end N h60 h1 h2 h3 h4 h
theorem checkB_long (N : Net) (h60 : ¬ N.way.length ≤ 60) : checkB N = false := by simp [checkB, h60]
set_option maxHeartbeats 2000000 in
theorem rcheck_any (N : Net) (A : Option Addr) (c : Nat) (w : World) (hS : SlR encL 3 w w.heap.size A N.way.length N.way) (hn : N.way.length ≤ 80) (hok : ∀ l ∈ N.way, LetterOk l) :
    Calls Try.prog 23 #[.agg #[.slice A N.way.length c, .int .i64 N.sent, .int .i64 N.delivered, .int .i64 N.lost, .int .i64 N.doubled]] w fun e w' => e = .returned (.bool (checkB N)) ∧ Below w.heap.size w w' := by
  have HNo := Lib.hid (checkB_letter N)
  have HInts := Lib.hid (checkB_ints N)
  have HLets := Lib.hid (checkB_lets N)
  have HLong := Lib.hid (checkB_long N)
  have HOk := Lib.hid hok
  have HC : Hid (∀ W, Below w.heap.size w W → ∀ k x, N.way[k]? = some x → ∃ b off, A = some ⟨b, off, none⟩ ∧ W.cell? ⟨b, off + k * 3, none⟩ = some (.string x.fr) ∧ W.cell? ⟨b, off + k * 3 + 1, none⟩ = some (.string x.to) ∧ W.cell? ⟨b, off + k * 3 + 2, none⟩ = some (.string x.text)) := Lib.hid (fun W hb k x hx => by
    have hk := (List.getElem?_eq_some_iff.1 hx).1
    obtain ⟨b, off, e, _, hC⟩ := (hS.below hb).2.resolve_left (by omega)
    obtain ⟨q1, q2, q3⟩ := hC.letter hx
    exact ⟨b, off, e, q1, q2, q3⟩)
  obtain ⟨L, s, d, l, t⟩ := N
  simp only at hn HNo HInts HLets HLong HOk HC ⊢
  generalize hv : checkB ⟨L, s, d, l, t⟩ = v at HNo HInts HLets HLong ⊢
  clear hv hok hS
  go_enter Try.func23, Try.ntmps23
  go_wp2_with fail
  go_loopw [3] (fun i wr => ∃ k : Nat, k ≤ L.length ∧ i = .int .i64 k ∧ Hid (upL L k = true) ∧ Hid (Below w.heap.size w wr ∧ Blk wr w.heap.size 25 #[.slice A L.length c, .int .i64 s, .int .i64 d, .int .i64 l, .int .i64 t])) (fun i _ => L.length - (intOf i).toNat)
  case atStart => exact ⟨0, Nat.zero_le _, rfl, Lib.hid rfl, Lib.hid ⟨by go_grown, Blk.new _ _ _⟩⟩
  case round =>
    obtain ⟨k, hk, rfl, HK, HB⟩ := hrel
    have q0 := HB.out.2.cells 0 _ rfl
    have q1 := HB.out.2.cells 1 _ rfl
    have q2 := HB.out.2.cells 2 _ rfl
    have q3 := HB.out.2.cells 3 _ rfl
    have q4 := HB.out.2.cells 4 _ rfl
    simp only [List.getElem_toArray, List.getElem_cons_zero, List.getElem_cons_succ] at q0 q1 q2 q3 q4
    by_cases hlt : k < L.length
    · obtain ⟨x, hx⟩ : ∃ x, L[k]? = some x := ⟨L[k], List.getElem?_eq_getElem hlt⟩
      obtain ⟨b, off, rfl, c0, c1, c2⟩ := HC.out wr HB.out.1 k x hx
      have HX := Lib.hid hx
      clear hx
      go_wp2_with fail
      refine (rletter_any x (HOk.out x (List.mem_of_getElem? HX.out)) wr).mono ?_
      rintro e w1 ⟨rfl, hb1⟩
      have HB1 : Hid (Below w.heap.size w w1 ∧ Blk w1 w.heap.size 25 #[.slice (some ⟨b, off, none⟩) L.length c, .int .i64 s, .int .i64 d, .int .i64 l, .int .i64 t]) := Lib.hid ⟨HB.out.1.trans (hb1.mono HB.out.1.size), HB.out.2.below hb1 HB.out.2.lt⟩
      clear q0 q1 q2 q3 q4 c0 c1 c2 hb1
      cases hl : letterB x with
      | true =>
        have h0 : letterE x = 0 := (letterE_ok x).2 hl
        rw [h0]
        have HU : Hid (upL L (k + 1) = true) := Lib.hid (by rw [upL_succ HX.out, HK.out, hl]; rfl)
        clear h0 hl
        go_wp2_with fail
        go_roundw
        case rel => exact ⟨k + 1, by omega, by go_num, HU, HB1⟩
        case measure => simp [intOf]; omega
      | false =>
        have h0 : (letterE x != 0) = true := by
          simp only [bne_iff_ne, ne_eq]
          intro h
          rw [(letterE_ok x).1 h] at hl
          cases hl
        have hv := HNo.out k x HX.out hl
        subst hv
        clear hl
        go_wp2_with fail
        go_ret
        exact ⟨rfl, HB1.out.1⟩
    · obtain rfl : k = L.length := by omega
      have HB1 := Lib.hid HB.out.1
      go_wp2_with fail
      refine (number_any s wr).mono ?_
      rintro e w1 ⟨rfl, rfl⟩
      cases h1 : inB s with
      | false =>
        have hv := HInts.out (by simp [h1])
        subst hv
        go_wp2_with fail
        go_ret
        exact ⟨rfl, HB1.out⟩
      | true =>
        go_wp2_with fail
        refine (number_any d wr).mono ?_
        rintro e w1 ⟨rfl, rfl⟩
        cases h2 : inB d with
        | false =>
          have hv := HInts.out (by simp [h2])
          subst hv
          go_wp2_with fail
          go_ret
          exact ⟨rfl, HB1.out⟩
        | true =>
          go_wp2_with fail
          refine (number_any l wr).mono ?_
          rintro e w1 ⟨rfl, rfl⟩
          cases h3 : inB l with
          | false =>
            have hv := HInts.out (by simp [h3])
            subst hv
            go_wp2_with fail
            go_ret
            exact ⟨rfl, HB1.out⟩
          | true =>
            go_wp2_with fail
            refine (number_any t wr).mono ?_
            rintro e w1 ⟨rfl, rfl⟩
            cases h4 : inB t with
            | false =>
              have hv := HInts.out (by simp [h4])
              subst hv
              go_wp2_with fail
              go_ret
              exact ⟨rfl, HB1.out⟩
            | true =>
              by_cases h60 : L.length ≤ 60
              · have hv := HLets.out HK.out h60 (by simp [h1, h2, h3, h4])
                subst hv
                simp only [inB, Bool.and_eq_true, decide_eq_true_eq] at h1 h2 h3 h4
                obtain ⟨h1, h1'⟩ := h1
                obtain ⟨h2, h2'⟩ := h2
                obtain ⟨h3, h3'⟩ := h3
                obtain ⟨h4, h4'⟩ := h4
                go_wp2_with fail
                go_ret
                exact ⟨rfl, HB1.out⟩
              · have hv := HLong.out h60
                subst hv
                clear h1 h2 h3 h4
                go_wp2_with fail
                go_ret
                exact ⟨rfl, HB1.out⟩
end Go.Proofs.Ytojabnaabgbclaa
