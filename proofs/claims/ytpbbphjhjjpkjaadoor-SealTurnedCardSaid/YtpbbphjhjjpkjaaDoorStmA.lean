/- stream: mix, Turn. -/
import Derived.Test.YtpbbphjhjjpkjaaDoorStmP
import Derived.Test.YtpbbphjhjjpkjaaDoorRow
set_option linter.unusedVariables false
namespace Go.Proofs.YtpbbphjhjjpkjaaDoor
open Go.RowKit
theorem words_two {a b : Nat} (ha : a < 4294967296) (hb : b < 4294967296) : words [a, b] := by intro n hn; simp at hn; rcases hn with rfl | rfl <;> assumption
theorem words_four {q : Q4} (h : q.ok) : words [q.a, q.b, q.c, q.d] := by
  obtain ⟨h1, h2, h3, h4⟩ := h
  intro n hn; simp at hn; rcases hn with rfl | rfl | rfl | rfl <;> assumption
set_option maxRecDepth 100000 in
theorem mix_any (a b c n x y : Nat) (w : World) (ha : a < 4294967296) (hb : b < 4294967296) (hc : c < 4294967296) (hn : n < 32) (h : mixS a b c n = (x, y)) :
    Calls Tryd.prog 40 #[.int .i64 a, .int .i64 b, .int .i64 c, .int .i64 n] w fun e w' => e = .returned (.tuple #[.int .i64 x, .int .i64 y]) ∧ Below w.heap.size w w' := by
  obtain ⟨rfl, h2⟩ : sumW [a, b] = x ∧ rotl (c ^^^ sumW [a, b]) n = y := by simpa [mixS] using h
  obtain ⟨s, hs⟩ : ∃ s, sumW [a, b] = s := ⟨_, rfl⟩
  have hsl := sumW_lt [a, b]
  rw [hs] at h2 hsl ⊢
  obtain ⟨t, ht⟩ : ∃ t, c ^^^ s = t := ⟨_, rfl⟩
  have hxl : t < 4294967296 := by rw [← ht]; exact Nat.xor_lt_two_pow (n := 32) hc hsl
  rw [ht] at h2
  have hrl := rotl_lt (s := n) hxl
  have HS := Lib.hid hs
  have HT := Lib.hid ht
  clear h hs ht
  go_enter Tryd.func40, Tryd.ntmps40
  go_wp2_with fail
  refine (wadd_any [a, b] _ 2 2 _ (slr_new2 _ a b) (by omega) (words_two ha hb)).mono ?_
  rintro e w1 ⟨rfl, hw1⟩
  rw [HS.out]
  have hB1 : Below w.heap.size w w1 := by rw [← hw1]; go_grown
  clear hw1
  go_wp2_with fail
  refine (wxor_any c s w1 hc hsl).mono ?_
  rintro e w2 ⟨rfl, hw2⟩
  rw [HT.out]
  have hz1 := hB1.size
  have hB2 : Below w.heap.size w w2 := by rw [← hw2]; go_grown
  clear hw2 hB1
  go_wp2_with fail
  refine (wrot_any t n w2 hxl hn).mono ?_
  rintro e w3 ⟨rfl, hw3⟩
  have hz2 := hB2.size
  have hB3 : Below w.heap.size w w3 := by rw [← hw3]; go_grown
  rw [h2]
  clear hw3 hB2
  go_wp2_with fail
  go_ret2
  exact ⟨rfl, hB3⟩
set_option maxRecDepth 100000 in
theorem turn_any (q r : Q4) (w : World) (hq : q.ok) (h : stTurn q = r) :
    Calls Tryd.prog 25 #[.int .i64 q.a, .int .i64 q.b, .int .i64 q.c, .int .i64 q.d] w fun e w' => e = .returned (.tuple #[.int .i64 r.a, .int .i64 r.b, .int .i64 r.c, .int .i64 r.d, .bool true]) ∧ Below w.heap.size w w' := by
  obtain ⟨a, b, c, d⟩ := q
  have hw4 := words_four hq
  obtain ⟨ha, hb, hc, hd⟩ := hq
  dsimp only at ha hb hc hd hw4 ⊢
  obtain ⟨a1, d1, h1⟩ : ∃ x y, mixS a b d 16 = (x, y) := ⟨_, _, rfl⟩
  have k1 := mixS_lt (a := a) (b := b) (n := 16) hd
  rw [h1] at k1
  obtain ⟨c1, b1, h2⟩ : ∃ x y, mixS c d1 b 12 = (x, y) := ⟨_, _, rfl⟩
  have k2 := mixS_lt (a := c) (b := d1) (n := 12) hb
  rw [h2] at k2
  obtain ⟨a2, d2, h3⟩ : ∃ x y, mixS a1 b1 d1 8 = (x, y) := ⟨_, _, rfl⟩
  have k3 := mixS_lt (a := a1) (b := b1) (n := 8) k1.2
  rw [h3] at k3
  obtain ⟨c2, b2, h4⟩ : ∃ x y, mixS c1 d2 b1 7 = (x, y) := ⟨_, _, rfl⟩
  have k4 := mixS_lt (a := c1) (b := d2) (n := 7) k2.2
  rw [h4] at k4
  obtain rfl : Q4.mk a2 b2 c2 d2 = r := by rw [← h]; simp [stTurn, half, h1, h2, h3, h4]
  have HI := Lib.hid (words_is hw4)
  clear h hw4
  dsimp only at k1 k2 k3 k4 ⊢
  go_enter Tryd.func25, Tryd.ntmps25
  go_wp2_with fail
  refine (is_any (ints [a, b, c, d]) _ 4 4 _ (slr_new w [a, b, c, d] (Blk.new w _ _) (by simp)) (by omega)).mono ?_
  rintro e w1 ⟨rfl, hw1⟩
  rw [HI.out]
  have hB1 : Below w.heap.size w w1 := by rw [← hw1]; go_grown
  clear hw1
  go_wp2_with fail
  refine (mix_any a b d 16 a1 d1 w1 ha hb hd (by omega) h1).mono ?_
  rintro e w2 ⟨rfl, hb2⟩
  have hB2 := hB1.trans (hb2.mono hB1.size)
  clear hb2 hB1
  go_wp2_with fail
  refine (mix_any c d1 b 12 c1 b1 w2 hc k1.2 hb (by omega) h2).mono ?_
  rintro e w3 ⟨rfl, hb3⟩
  have hB3 := hB2.trans (hb3.mono hB2.size)
  clear hb3 hB2
  go_wp2_with fail
  refine (mix_any a1 b1 d1 8 a2 d2 w3 k1.1 k2.2 k1.2 (by omega) h3).mono ?_
  rintro e w4 ⟨rfl, hb4⟩
  have hB4 := hB3.trans (hb4.mono hB3.size)
  clear hb4 hB3
  go_wp2_with fail
  refine (mix_any c1 d2 b1 7 c2 b2 w4 k2.1 k3.2 k2.2 (by omega) h4).mono ?_
  rintro e w5 ⟨rfl, hb5⟩
  have hB5 := hB4.trans (hb5.mono hB4.size)
  clear hb5 hB4
  go_wp2_with (with_reducible refine end_at ?_)
  refine end_ret (v := .tuple #[.int .i64 a2, .int .i64 b2, .int .i64 c2, .int .i64 d2, .bool true]) (by simp [results, Tryd.results25, go_sem]) rfl ⟨rfl, hB5⟩
end Go.Proofs.YtpbbphjhjjpkjaaDoor
