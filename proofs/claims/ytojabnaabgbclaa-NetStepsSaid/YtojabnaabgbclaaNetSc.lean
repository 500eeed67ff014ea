/- the references of chapter 19: Own, without. -/
import Derived.Test.YtojabnaabgbclaaNetSb
import Derived.Test.YtojabnaabgbclaaNetH
set_option linter.unusedVariables false
set_option linter.unusedSimpArgs false
namespace Go.Proofs.Ytojabnaabgbclaa
open Go.RowKit
theorem encL_one (x : Letter) : ∀ u ∈ encL x, u.oneCell' = true := fun u hu => one_flat [x] u (by simpa [flat] using hu)
theorem wpList_append_let {ops : Array Oper} {rest : List Oper} {o : Oper} {a : Act} {Q : Exit → Act → World → Prop} {w : World} {base : Nat} {v : Value} {L : List Letter} (hgd : o.guard = none) (s x : Operand)
    (ho : o.op = .call { callee := .builtin .append, args := #[s, x], argTypes := #[23, 23] })
    (hs : a.eval s = v) (hown : ORow 27 encL 3 w base v L) (B : Nat) (A : Option Addr) (m c : Nat) (M : List Letter) (hx : a.eval x = .slice A m c) (hr : SlR encL 3 w B A m M) (n : Nat) (hl : (L ++ M).length = n) (hn : n ≤ 1000000) (hbase : base ≤ w.heap.size)
    (h : ∀ A c w', Hid (ORow 27 encL 3 w' base (.slice A n c) (L ++ M)) → w.grownBy w' v.ownBlock → Below base w w' → n ≤ c → c ≤ maxLen → wpList Try.prog ops Q rest (a.put o.dst (.slice A n c)) w') : wpList Try.prog ops Q (o :: rest) a w :=
  wpList_append_row encL_len encL_one hgd s x _ ho _ 48 Try.underlying23 letter_info rfl (by omega) hs hown B A m c M hx hr n hl (by simp only [maxLen]; omega) (by omega) hbase h
set_option maxHeartbeats 1000000 in
theorem own_any (N : Net) (A : Option Addr) (c : Nat) (w : World) (hS : SlR encL 3 w w.heap.size A N.way.length N.way) (hn : N.way.length ≤ 80) :
    Calls Try.prog 17 #[.agg #[.slice A N.way.length c, .int .i64 N.sent, .int .i64 N.delivered, .int .i64 N.lost, .int .i64 N.doubled]] w fun e w' => ∃ v, e = .returned v ∧ NetOut w' w.heap.size v N ∧ Below w.heap.size w w' := by
  have HS : Hid (∀ W, Below w.heap.size w W → SlR encL 3 W w.heap.size A N.way.length N.way) := Lib.hid (fun W hb => hS.below hb)
  clear hS
  go_enter Try.func17, Try.ntmps17
  have hs2' := (Blk.new_at (w := (w.alloc (.cells #[.slice A N.way.length c, .int .i64 N.sent, .int .i64 N.delivered, .int .i64 N.lost, .int .i64 N.doubled] 25)).alloc (.cells #[.slice none 0 0, .int .i64 0, .int .i64 0, .int .i64 0, .int .i64 0] 25)) (g := w.heap.size + 1 + 1) (by simp) 25 #[.slice none 0 0, .int .i64 N.sent, .int .i64 N.delivered, .int .i64 N.lost, .int .i64 N.doubled])
  have hr2' := (Blk.new_at (w := w.alloc (.cells #[.slice A N.way.length c, .int .i64 N.sent, .int .i64 N.delivered, .int .i64 N.lost, .int .i64 N.doubled] 25)) (g := w.heap.size + 1) (by simp) 25 #[.slice none 0 0, .int .i64 0, .int .i64 0, .int .i64 0, .int .i64 0]).alloc (.cells #[.slice none 0 0, .int .i64 N.sent, .int .i64 N.delivered, .int .i64 N.lost, .int .i64 N.doubled] 25)
  have HSB := Lib.hid hs2'
  have HRB := Lib.hid hr2'
  clear hs2' hr2'
  go_wp2_with (first | (at_builtin; refine wpList_append_let (v := .slice none 0 0) rfl (.tmp 7) (.tmp 9) rfl rfl (orow_nil _ w.heap.size) w.heap.size A N.way.length c N.way rfl (HS.out _ (by go_grown)) N.way.length (by simp) (by omega) (by simp; omega) ?_; intro A4 c4 w4 HR4 hg4 hb4 _ _; have hs2 := Blk.grown (HSB.out) hg4 (by simp [Value.ownBlock]); have hr2 := Blk.grown HRB.out hg4 (by simp [Value.ownBlock]); have s0 := hs2.cells 0 _ rfl; have s1 := hs2.cells 1 _ rfl; have s2 := hs2.cells 2 _ rfl; have s3 := hs2.cells 3 _ rfl; have s4 := hs2.cells 4 _ rfl; have sf := hs2.frozen; have hsl := hs2.lt; have q0 := hr2.cells 0 _ rfl; have q1 := hr2.cells 1 _ rfl; have q2 := hr2.cells 2 _ rfl; have q3 := hr2.cells 3 _ rfl; have q4 := hr2.cells 4 _ rfl; have qf := hr2.frozen; simp only [List.getElem_toArray, List.getElem_cons_zero, List.getElem_cons_succ, List.nil_append] at s0 s1 s2 s3 s4 q0 q1 q2 q3 q4 HR4; have HB4 : Hid (Below w.heap.size w w4) := Lib.hid (Below.trans (by go_grown) hb4); have HO : Hid (_ ∧ _ ∧ _) := Lib.hid (And.intro (show w4.ownsRow w.heap.size 27 3 (.slice A4 N.way.length c4) N.way.length (flat encL N.way) from HR4.out) (And.intro (own_blk_ne HR4.out hr2 (by decide)) (own_blk_ne HR4.out hs2 (by decide)))); clear hg4 hb4 hs2 hr2 HR4 HSB HRB) | (with_reducible refine end_at ?_))
  obtain ⟨h1, n1, m1⟩ := HO.out
  refine end_ret (v := .agg #[.slice A4 N.way.length c4, .int .i64 N.sent, .int .i64 N.delivered, .int .i64 N.lost, .int .i64 N.doubled]) (by simp [results, Try.results17, go_sem, q0, q1, q2, q3, q4]; try rfl) rfl ⟨_, rfl, ⟨A4, c4, rfl, ?_⟩, ?_⟩
  · repeat' (first | (with_reducible exact h1) | (with_reducible refine own_far ?_ n1 _ _) | (with_reducible refine own_far ?_ m1 _ _))
  · have := HB4.out
    go_grown
end Go.Proofs.Ytojabnaabgbclaa
