/- net: a net that is worked on (a box of its own, with letters of its own): copied, add, remove, and the three steps. -/
import Derived.Test.YtojabnaabgbclaaNetB
import Derived.Test.YtojabnaabgbclaaMem
set_option linter.unusedVariables false
namespace Go.Proofs.Ytojabnaabgbclaa
open Go.RowKit
theorem letter_info : (Try.prog.info? 27).map (fun i => (i.zero, i.size, i.bytes)) = some (some (.agg #[.string ByteArray.empty, .string ByteArray.empty, .string ByteArray.empty]), 3, 48) := by kernel_rfl
theorem one_flat (L : List Letter) : ∀ u ∈ flat encL L, u.oneCell' = true := by
  intro u hu
  simp only [flat, List.mem_flatMap, encL] at hu
  obtain ⟨l, _, hu⟩ := hu
  simp at hu
  rcases hu with rfl | rfl | rfl <;> rfl

/-- Block g, from B on, is the net N, whose letters lie in a row of their own from B on. -/
def Way (w : World) (B g : Nat) (N : Net) : Prop := ∃ A c,
  Blk w g 58 #[.slice A N.way.length c, .int .i64 N.sent, .int .i64 N.delivered, .int .i64 N.lost, .int .i64 N.doubled] ∧
  w.ownsRow B 27 3 (.slice A N.way.length c) N.way.length (flat encL N.way) ∧ B ≤ g

set_option maxHeartbeats 400000 in
theorem copied_any (N : Net) (A : Option Addr) (n c : Nat) (w : World) (hS : SlR encL 3 w w.heap.size A n N.way) (hn : n ≤ 60) :
    Calls Try.prog 31 #[.agg #[.slice A n c, .int .i64 N.sent, .int .i64 N.delivered, .int .i64 N.lost, .int .i64 N.doubled]] w fun e w' =>
      ∃ g, e = .returned (.pointer (some ⟨g, 0, none⟩)) ∧ Way w' w.heap.size g N ∧ Below w.heap.size w w' := by
  obtain ⟨i0, hi0, hz0, hz1, hz2⟩ := info_parts letter_info
  have hr := hS.reads encL_len
  have hl := hS.1
  obtain ⟨L, s, d, l, e⟩ := N
  simp only at hr hl ⊢
  have HR := Lib.hid hr
  have HL := Lib.hid hl
  clear hr hl hS
  go_enter Try.func31, Try.ntmps31
  go_wp2_with (at_builtin; refine wpList_append_any _ rfl (.const (.slice none 0 0)) (.tmp 9) _ rfl w.heap.size _ i0 _ 3 48 Try.underlying23 hi0 hz0 hz1 hz2 rfl (by omega) (.slice none 0 0) 0 [] rfl (World.ownsRow_nil _ _ _ _) w.heap.size A n c _ rfl (((HR.out.alloc (Nat.le_refl _) _).alloc (by simp) _)) (one_flat L) (by simp only [maxLen]; omega) (by omega) (by simp; omega) ?_; intro v1 w1 hown1 hg1 hat1; obtain ⟨A1, c1, rfl, _, _, _⟩ := own_form hown1; simp only [Nat.zero_add, List.nil_append] at hown1 ⊢; have hk := (Blk.new (w.alloc _) _ _).grown hg1 (by simp [Value.ownBlock]); rw [World.size_alloc] at hk; have k0 := hk.cells 0 _ rfl; have f0 := hk.frozen 0; have hb1 : Below w.heap.size w w1 := Below.grown (by go_grown) hg1 (by simp; omega) (by simp [Value.ownBlock]))
  go_ret
  have hL := HL.out
  subst hL
  exact ⟨_, rfl, ⟨A1, c1, by simpa using hk.set_ 0 _, own_far hown1 (own_blk_ne hown1 hk (by decide)) _ _, by omega⟩, hb1.setCell (by simp) _⟩

set_option maxHeartbeats 400000 in
theorem add_any (N : Net) (x : Letter) (B g : Nat) (w : World) (hW : Way w B g N) (hB : B ≤ w.heap.size) (hn : N.way.length < 60) :
    Calls Try.prog 32 #[.pointer (some ⟨g, 0, none⟩), .agg #[.string x.fr, .string x.to, .string x.text]] w fun e w' =>
      e = .returned (.tuple #[]) ∧ Way w' B g { N with way := N.way ++ [x] } ∧ Below B w w' := by
  obtain ⟨i0, hi0, hz0, hz1, hz2⟩ := info_parts letter_info
  obtain ⟨L, s, d, l, e⟩ := N
  obtain ⟨A, c, hk, hown, hBg⟩ := hW
  simp only at hk hown hn ⊢
  have k0 := hk.cells 0 _ rfl
  have f0 := hk.frozen 0
  have hlt := hk.lt
  have hne := own_blk_ne hown hk (by decide)
  have HO := Lib.hid hown
  clear hown
  go_enter Try.func32, Try.ntmps32
  go_wp2
  go_region_law (refine step_append_any _ rfl (.tmp 9) (.tmp 11) _ rfl B _ i0 _ 3 48 Try.underlying23 hi0 hz0 hz1 hz2 rfl (by omega) (.slice A L.length c) L.length (flat encL L) (by simp [Act.eval]) ((HO.out.alloc _).alloc _) (w.heap.size + 1 + 1) (some ⟨w.heap.size + 1, 0, none⟩) 1 1 [.string x.fr, .string x.to, .string x.text] (by simp [Act.eval]) (Reads.new_at (by simp) 27 #[.string x.fr, .string x.to, .string x.text] rfl) (one_flat [x]) (by simp only [maxLen]; omega) (by omega) (by simp; omega) ?_; intro v1 w1 hown1 hg1 hat1; obtain ⟨A1, c1, rfl, _, _, _⟩ := own_form hown1; have hk1 := ((hk.alloc _).alloc _).drew.grown hg1 (fun h => hne h.symm); have q0 := hk1.cells 0 _ rfl; have q1 := hk1.frozen 0; have hb1 : Below B w w1 := Below.grown (by go_grown) hg1 (by simp; omega) (fun k h => (HO.out.lt k h).1))
  all_goals
    go_end0
    refine ⟨rfl, ⟨A1, c1, ?_, ?_, hBg⟩, hb1.setCell hBg _⟩
    · simpa using hk1.set_ 0 _
    · simp only [List.length_append, List.length_singleton, flat_snoc]
      exact own_far hown1 (own_blk_ne hown1 hk1 (by decide)) _ _

theorem flat_erase (L : List Letter) (i : Nat) (hi : i < L.length) : (flat encL L).take (i * 3) ++ (flat encL L).drop ((i + 1) * 3) = flat encL (L.eraseIdx i) := by
  induction L generalizing i with
  | nil => simp at hi
  | cons x L ih =>
    cases i with
    | zero => simp [flat, encL]
    | succ i =>
      have := ih i (by simpa using hi)
      simp only [flat, List.flatMap_cons, List.eraseIdx_cons_succ] at *
      rw [← this, show (i + 1 + 1) * 3 = (encL x).length + (i + 1) * 3 by simp [encL]; omega, List.drop_length_add_append, show (i + 1) * 3 = (encL x).length + i * 3 by simp [encL]; omega]
      rw [List.take_length_add_append, List.append_assoc]

set_option maxHeartbeats 800000 in
theorem remove_any (N : Net) (i B g : Nat) (w : World) (hW : Way w B g N) (hB : B ≤ w.heap.size) (hn : N.way.length ≤ 60) (hi : i < N.way.length) :
    Calls Try.prog 40 #[.pointer (some ⟨g, 0, none⟩), .int .i64 i] w fun e w' =>
      e = .returned (.tuple #[]) ∧ Way w' B g { N with way := N.way.eraseIdx i } ∧ Below B w w' := by
  obtain ⟨i0, hi0, hz0, hz1, hz2⟩ := info_parts letter_info
  obtain ⟨L, s, d, l, e⟩ := N
  obtain ⟨A, c, hk, hown, hBg⟩ := hW
  simp only at hk hown hn hi ⊢
  have hlen := List.length_eraseIdx_of_lt hi
  have hfl := flat_erase L i hi
  have HF := Lib.hid (And.intro hfl hlen)
  clear hfl hlen
  obtain ⟨A', c', hv, hnc, hcm, h0⟩ := own_form hown
  obtain ⟨rfl, rfl⟩ : A = A' ∧ c = c' := by injection hv with h1 _ h2; exact ⟨h1, h2⟩
  obtain ⟨b, rfl, hbB, hbw⟩ : ∃ b, A = some ⟨b, 0, none⟩ ∧ B ≤ b ∧ b < w.heap.size := by
    rcases h0 with h0 | h0
    · omega
    · exact h0
  clear hv h0
  simp only [maxLen] at hcm
  generalize hn' : L.length = n at *
  have k0 := hk.cells 0 _ rfl
  have f0 := hk.frozen 0
  have hni : n - 1 = i + (n - (i + 1)) := by omega
  have HNI := Lib.hid hni
  clear hni
  have hlt := hk.lt
  have hne := own_blk_ne hown hk (by decide)
  have hr := (Reads.of_own hown).cut (k := i + 1) (cap := c) (by omega) (by omega)
  obtain ⟨A2, hA, hr2⟩ : ∃ A2 : Option Addr, (if c = i + 1 then some (⟨b, 0, none⟩ : Addr) else some ⟨b, (i + 1) * 3, none⟩) = A2 ∧ Hid (Reads w w.heap.size 3 A2 (n - (i + 1)) ((flat encL L).drop ((i + 1) * 3))) := by
    refine ⟨_, rfl, ?_⟩
    have e : (Option.map (fun x : Addr => x.add ((i + 1) * 3)) (some (⟨b, 0, none⟩ : Addr))) = some ⟨b, (i + 1) * 3, none⟩ := by simp [Addr.add]
    rw [e] at hr; exact hr
  clear hr
  have ho := own_take hown (k := i) (by omega) (by simp)
  have h1c := one_flat L
  have HO := Lib.hid (And.intro hown (And.intro ho h1c))
  clear hown ho h1c
  have HL := Lib.hid hn'
  clear hn'
  have hwr : IntKind.i64.wrap ((i : Int) + 1) = (i : Int) + 1 := by rw [IntKind.wrap_i64]; omega
  have hp0 : (0 : Int) ≤ (i : Int) + 1 := by omega
  have hp1 : (i : Int) + 1 ≤ (n : Int) := by omega
  have hp2 : ((i : Int) + 1).toNat = i + 1 := by omega
  have hic : i ≤ c := by omega
  go_enter Try.func40, Try.ntmps40
  go_wp2_with fail
  go_region_law (refine step_append_any _ rfl (.tmp 11) (.tmp 19) _ rfl B _ i0 _ 3 48 Try.underlying23 hi0 hz0 hz1 hz2 rfl (by omega) (.slice (some ⟨b, 0, none⟩) i c) i ((flat encL L).take (i * 3)) (by simp [Act.eval, Act.put]) HO.out.2.1 w.heap.size A2 (n - (i + 1)) (c - (i + 1)) ((flat encL L).drop ((i + 1) * 3)) (by simp [Act.eval, Act.put]) hr2.out (fun u hu => HO.out.2.2 u (List.mem_of_mem_drop hu)) (by simp only [maxLen]; omega) (by omega) hB ?_; intro v1 w1 hown1 hg1 hat1; obtain ⟨A1, c1, rfl, _, _, _⟩ := own_form hown1; have hk1 := hk.drew.grown hg1 (fun h => hne h.symm); have q0 := hk1.cells 0 _ rfl; have q1 := hk1.frozen 0; have hb1 : Below B w w1 := Below.grown (by go_grown) hg1 (by simp; omega) (fun k h => (HO.out.2.1.lt k h).1))
  all_goals
    go_end0
    refine ⟨rfl, ⟨A1, c1, ?_, ?_, hBg⟩, hb1.setCell hBg _⟩
    · have := HF.out.2
      simp only [this]
      rw [HNI.out]
      simpa using hk1.set_ 0 _
    · have := HF.out.2
      simp only [this, ← HF.out.1]
      rw [HNI.out]
      exact own_far hown1 (own_blk_ne hown1 hk1 (by decide)) _ _
end Go.Proofs.Ytojabnaabgbclaa
