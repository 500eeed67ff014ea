/- the references of chapter 19: For, Ints. -/
import Derived.Test.YtojabnaabgbclaaNetSa
import Derived.Test.YtojabnaabgbclaaNetR
import Derived.Deep.QuietTactic
import Derived.BigQuiet
set_option linter.unusedVariables false
set_option linter.unusedSimpArgs false
namespace Go.Proofs.Ytojabnaabgbclaa
open Go.RowKit
theorem wpList_append_nu {ops : Array Oper} {rest : List Oper} {o : Oper} {a : Act} {Q : Exit → Act → World → Prop} {w : World} {base : Nat} {v : Value} {L : List Nat} (hgd : o.guard = none) (s x : Operand)
    (ho : o.op = .call { callee := .builtin .append, args := #[s, x], argTypes := #[45, 45] })
    (hs : a.eval s = v) (hown : NuRow w base v L) (B : Nat) (A : Option Addr) (m c : Nat) (M : List Nat) (hx : a.eval x = .slice A m c) (hr : SlR encNu 1 w B A m M) (n : Nat) (hl : (L ++ M).length = n) (hn : n ≤ 1000000) (hbase : base ≤ w.heap.size)
    (h : ∀ A c w', Hid (NuRow w' base (.slice A n c) (L ++ M)) → w.grownBy w' v.ownBlock → Below base w w' → n ≤ c → c ≤ maxLen → wpList Try.prog ops Q rest (a.put o.dst (.slice A n c)) w') : wpList Try.prog ops Q (o :: rest) a w :=
  wpList_append_row encNu_len encNu_one hgd s x _ ho _ 8 Try.underlying45 int_info rfl (by omega) hs hown B A m c M hx hr n hl (by simp only [maxLen]; omega) (by omega) hbase h
/-- the loop of For: the net in its box, what was found in a row -/
def RFor (w : World) (L : List Letter) (A : Option Addr) (c : Nat) (s d l t : Int) (v : Value) (X : List Nat) (wr : World) : Prop :=
  Below w.heap.size w wr ∧ Blk wr w.heap.size 25 #[.slice A L.length c, .int .i64 s, .int .i64 d, .int .i64 l, .int .i64 t] ∧ NuRow wr (w.heap.size + 1) v X
theorem RFor.below {w wr wx : World} {L : List Letter} {A : Option Addr} {c : Nat} {s d l t : Int} {v : Value} {X : List Nat} (h : RFor w L A c s d l t v X wr) (hb : Below wr.heap.size wr wx) : RFor w L A c s d l t v X wx :=
  ⟨h.1.trans (hb.mono h.1.size), h.2.1.below hb h.2.1.lt, orow_below h.2.2 hb (Nat.le_refl _)⟩
set_option maxHeartbeats 2000000 in
theorem rfor_any (N : Net) (name : ByteArray) (A : Option Addr) (c : Nat) (w : World) (hS : SlR encL 3 w w.heap.size A N.way.length N.way) (hn : N.way.length ≤ 80) (hok : ∀ l ∈ N.way, LetterOk l) :
    Calls Try.prog 26 #[.agg #[.slice A N.way.length c, .int .i64 N.sent, .int .i64 N.delivered, .int .i64 N.lost, .int .i64 N.doubled], .string name] w (ForPost N name w) := by
  have HP : Hid (∀ w' A c, Below w.heap.size w w' → NuRow w' w.heap.size (.slice A (forV N name).length c) (forV N name) → ForPost N name w (.returned (.slice A (forV N name).length c)) w') := Lib.hid (fun w' A c hb hr => ⟨hb, A, c, rfl, Lib.hid hr⟩)
  have HCk : Hid (∀ W c, Below w.heap.size w W → Calls Try.prog 23 #[.agg #[.slice A N.way.length c, .int .i64 N.sent, .int .i64 N.delivered, .int .i64 N.lost, .int .i64 N.doubled]] W fun e w' => e = .returned (.bool (checkB N)) ∧ Below W.heap.size W w') :=
    Lib.hid (fun W c hb => rcheck_any N A c W ((hS.below hb).more hb.size) hn hok)
  have HC : Hid (∀ W, Below w.heap.size w W → ∀ k x, N.way[k]? = some x → ∃ b off, A = some ⟨b, off, none⟩ ∧ W.cell? ⟨b, off + k * 3, none⟩ = some (.string x.fr) ∧ W.cell? ⟨b, off + k * 3 + 1, none⟩ = some (.string x.to) ∧ W.cell? ⟨b, off + k * 3 + 2, none⟩ = some (.string x.text)) := Lib.hid (fun W hb k x hx => by
    have hk := (List.getElem?_eq_some_iff.1 hx).1
    obtain ⟨b, off, e, _, hC⟩ := (hS.below hb).2.resolve_left (by omega)
    obtain ⟨q1, q2, q3⟩ := hC.letter hx
    exact ⟨b, off, e, q1, q2, q3⟩)
  cases hc : checkB N with
  | false =>
    have hV : forV N name = [] := by simp [forV, hc]
    rw [hV] at HP
    rw [hc] at HCk
    obtain ⟨L, s, d, l, t⟩ := N
    simp only at hn HP HCk HC ⊢
    clear hS hok hV hc
    by_cases h0 : 0 < L.length
    · go_enter Try.func26, Try.ntmps26
      go_wp2_with fail
      refine wp_loop_rounds 1 ?_
      rw [rounds_succ]
      go_wp2_with fail
      refine (HCk.out _ c (by go_grown)).mono ?_
      rintro e w1 ⟨rfl, hb1⟩
      have hB : Below w.heap.size w w1 := Below.trans (by go_grown) (hb1.mono (by simp))
      clear hb1
      go_wp2_with fail
      go_ret
      exact HP.out _ none 0 hB (orow_nil _ _)
    · have h0' : L.length ≤ 0 := by omega
      go_enter Try.func26, Try.ntmps26
      go_wp2_with fail
      refine wp_loop_rounds 1 ?_
      rw [rounds_succ]
      go_wp2_with fail
      go_ret
      exact HP.out _ none 0 (by go_grown) (orow_nil _ _)
  | true =>
    have hV : forV N name = forTo N.way name N.way.length := by simp [forV, hc]
    rw [hV] at HP
    rw [hc] at HCk
    obtain ⟨L, s, d, l, t⟩ := N
    simp only at hn HP HCk HC ⊢
    clear hS hok hV hc
    go_enter Try.func26, Try.ntmps26
    go_wp2_with fail
    go_loopw [5, 6] (fun v i wr => ∃ (k : Nat) (A3 : Option Addr) (c3 : Nat), k ≤ L.length ∧ i = .int .i64 k ∧ v = .slice A3 (forTo L name k).length c3 ∧ Hid (RFor w L A c s d l t (.slice A3 (forTo L name k).length c3) (forTo L name k) wr)) (fun _ i _ => L.length - (intOf i).toNat)
    case atStart => exact ⟨0, none, 0, Nat.zero_le _, rfl, rfl, Lib.hid ⟨by go_grown, Blk.new _ _ _, orow_nil _ _⟩⟩
    case round =>
      obtain ⟨k, A3, c3, hk, rfl, rfl, HR⟩ := hrel
      have hf := forTo_len L name k
      have q0 := HR.out.2.1.cells 0 _ rfl
      have q1 := HR.out.2.1.cells 1 _ rfl
      have q2 := HR.out.2.1.cells 2 _ rfl
      have q3 := HR.out.2.1.cells 3 _ rfl
      have q4 := HR.out.2.1.cells 4 _ rfl
      simp only [List.getElem_toArray, List.getElem_cons_zero, List.getElem_cons_succ] at q0 q1 q2 q3 q4
      by_cases hlt : k < L.length
      · obtain ⟨x, hx⟩ : ∃ x, L[k]? = some x := ⟨L[k], List.getElem?_eq_getElem hlt⟩
        go_wp2_with fail
        refine (HCk.out wr c HR.out.1).mono ?_
        rintro e w1 ⟨rfl, hb1⟩
        have HR1 := Lib.hid (HR.out.below hb1)
        clear q0 q1 q2 q3 q4 hb1 HR
        have q0 := HR1.out.2.1.cells 0 _ rfl
        simp only [List.getElem_toArray, List.getElem_cons_zero] at q0
        obtain ⟨b, off, rfl, c0, c1, c2⟩ := HC.out w1 HR1.out.1 k x hx
        have HX := Lib.hid hx
        clear hx
        by_cases hto : x.to = name
        · have e1 : (x.to.toList == name.toList) = true := by rw [hto]; simp
          have HF := Lib.hid (forTo_yes HX.out hto)
          have hz := HR1.out.2.1.lt
          clear hto
          go_wp2_with (at_builtin; refine wpList_append_nu rfl (.tmp 26) (.tmp 28) rfl rfl (orow_alloc HR1.out.2.2 _) (w1.heap.size + 1) (some ⟨w1.heap.size, 0, none⟩) 1 1 [k] rfl (slr_one encNu_len (t := 3) k (Blk.new w1 _ _) (by omega)) ((forTo L name k).length + 1) (by simp) (by omega) (by simp; omega) ?_; intro A4 c4 w4 HR4 hg4 hb4 hc41 hc42)
          go_roundw
          case rel => exact ⟨k + 1, A4, c4, by omega, by go_num, by rw [HF.out, List.length_append]; rfl, Lib.hid (by
            rw [HF.out, List.length_append]
            exact ⟨Below.trans (HR1.out.1.alloc (by omega) _) (hb4.mono (by omega)), (HR1.out.2.1.alloc _).below hb4 (by omega), HR4.out⟩)⟩
          case measure => simp [intOf]; omega
        · have e1 : (x.to.toList == name.toList) = false := by
            simp only [beq_eq_false_iff_ne, ne_eq]
            exact fun h => hto (bytes_ext h)
          have HF := Lib.hid (forTo_no HX.out hto)
          clear hto
          go_wp2_with fail
          go_roundw
          case rel => exact ⟨k + 1, A3, c3, by omega, by go_num, by rw [HF.out], Lib.hid (by rw [HF.out]; exact HR1.out)⟩
          case measure => simp [intOf]; omega
      · obtain rfl : k = L.length := by omega
        go_wp2_with fail
        go_ret
        exact HP.out _ A3 c3 HR.out.1 (orow_base HR.out.2.2 (by omega))
set_option maxHeartbeats 2000000 in
/-- two like rows are the same -/
theorem ints_like (X : List Nat) (A B : Option Addr) (c d : Nat) (w : World) (hA : SlR encNu 1 w w.heap.size A X.length X) (hB : SlR encNu 1 w w.heap.size B X.length X) (hX : X.length ≤ 80) :
    Calls Try.prog 24 #[.slice A X.length c, .slice B X.length d] w fun e w' => e = .returned (.bool true) ∧ Below w.heap.size w w' := by
  have HA : Hid (∀ (k x : Nat), X[k]? = some x → ∃ b off, A = some ⟨b, off, none⟩ ∧ w.cell? ⟨b, off + k, none⟩ = some (.int .i64 x)) := Lib.hid (fun k x hx => by
    have hk := (List.getElem?_eq_some_iff.1 hx).1
    obtain ⟨b, off, e, _, hC⟩ := hA.2.resolve_left (by omega)
    have := hC k x hx 0 _ rfl
    exact ⟨b, off, e, by simpa [encNu, numV] using this⟩)
  have HB : Hid (∀ (k x : Nat), X[k]? = some x → ∃ b off, B = some ⟨b, off, none⟩ ∧ w.cell? ⟨b, off + k, none⟩ = some (.int .i64 x)) := Lib.hid (fun k x hx => by
    have hk := (List.getElem?_eq_some_iff.1 hx).1
    obtain ⟨b, off, e, _, hC⟩ := hB.2.resolve_left (by omega)
    have := hC k x hx 0 _ rfl
    exact ⟨b, off, e, by simpa [encNu, numV] using this⟩)
  clear hA hB
  go_enter Try.func24, Try.ntmps24
  go_wp2_with fail
  go_loopw [5] (fun i wr => ∃ (k n : Nat), k ≤ X.length ∧ i = .int .i64 k ∧ w.drewN n = wr) (fun i _ => X.length - (intOf i).toNat)
  case atStart => exact ⟨0, 0, Nat.zero_le _, rfl, rfl⟩
  case round =>
    obtain ⟨k, n, hk, rfl, rfl⟩ := hrel
    by_cases hlt : k < X.length
    · obtain ⟨x, hx⟩ : ∃ x, X[k]? = some x := ⟨X[k], List.getElem?_eq_getElem hlt⟩
      obtain ⟨b, off, rfl, c0⟩ := HA.out k x hx
      obtain ⟨b', off', rfl, c1⟩ := HB.out k x hx
      have c0 : (w.drewN n).cell? _ = _ := c0
      have c1 : (w.drewN n).cell? _ = _ := c1
      have HW := Lib.hid (fun m => (rfl : (w.drewN n).drewN m = (w.drewN n).drewN m))
      have hB : Hid (Below w.heap.size w (w.drewN n)) := Lib.hid (below_drewN (Below.refl _ _) _)
      clear hx
      go_wp2_with fail
      go_big_quiet (fail)
      go_wp2_with fail
      go_roundw
      case rel => exact ⟨k + 1, n + nq, by omega, by go_num, rfl⟩
      case measure => simp [intOf]; omega
    · obtain rfl : k = X.length := by omega
      go_wp2_with fail
      go_ret
      exact ⟨rfl, below_drewN (Below.refl _ _) _⟩
end Go.Proofs.Ytojabnaabgbclaa
