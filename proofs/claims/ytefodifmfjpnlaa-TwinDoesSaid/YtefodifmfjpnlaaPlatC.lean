/- platter: a disk that steps are done on (a box of its own, with rows of its own): copied. -/
import Derived.Test.YtefodifmfjpnlaaPlatB
set_option linter.unusedVariables false
namespace Go.Proofs.Ytefodifmfjpnlaa
open Go.RowKit
theorem str_info : (Try.prog.info? 9).map (fun i => (i.zero, i.size, i.bytes)) = some (some (.string ByteArray.empty), 1, 16) := by kernel_rfl
theorem put_info : (Try.prog.info? 42).map (fun i => (i.zero, i.size, i.bytes)) = some (some (.agg #[.int .i64 0, .string ByteArray.empty]), 2, 24) := by kernel_rfl
theorem one_flatS (L : List ByteArray) : ∀ u ∈ flat encS L, u.oneCell' = true := by
  intro u hu
  simp only [flat, List.mem_flatMap, encS] at hu
  obtain ⟨l, _, hu⟩ := hu
  simp at hu
  rw [hu]; rfl
theorem one_flatP (L : List PPut) : ∀ u ∈ flat encP L, u.oneCell' = true := by
  intro u hu
  simp only [flat, List.mem_flatMap, encP] at hu
  obtain ⟨l, _, hu⟩ := hu
  simp at hu
  rcases hu with rfl | rfl <;> rfl
theorem below_of_grown {w w' : World} (hg : w.grownBy w' none) : Below w.heap.size w w' := ⟨hg.os, hg.tape, hg.output, hg.size, fun k hk => hg.block k hk (by simp)⟩
/-- block g, from B on, is the disk p, whose rows are its own, from B on -/
def Disk (w : World) (B g : Nat) (p : Plat) : Prop := ∃ A c A' c',
  Blk w g 80 #[.slice A p.sectors.length c, .slice A' p.cache.length c'] ∧
  w.ownsRow B 9 1 (.slice A p.sectors.length c) p.sectors.length (flat encS p.sectors) ∧
  w.ownsRow B 42 2 (.slice A' p.cache.length c') p.cache.length (flat encP p.cache) ∧ B ≤ g

set_option maxHeartbeats 1000000 in
theorem dcopied_any (p : Plat) (A A' : Option Addr) (n m c d : Nat) (w : World) (hP : PlatAt w w.heap.size A n A' m p) (hn : n ≤ 1000) (hm : m ≤ 1000) :
    Calls Try.prog 50 #[.agg #[.slice A n c, .slice A' m d]] w fun e w' =>
      ∃ g, e = .returned (.pointer (some ⟨g, 0, none⟩)) ∧ Disk w' w.heap.size g p ∧ Below w.heap.size w w' := by
  obtain ⟨i0, hi0, hz0, hz1, hz2⟩ := info_parts str_info
  obtain ⟨i1, hj0, hy0, hy1, hy2⟩ := info_parts put_info
  obtain ⟨L, M⟩ := p
  obtain ⟨h1, h2⟩ := hP
  simp only at h1 h2
  have HS : Hid (∀ W, Below w.heap.size w W → Reads W w.heap.size 1 A n (flat encS L)) := fun W hb => (h1.below hb).reads encS_len
  have HC : Hid (∀ W, Below w.heap.size w W → Reads W w.heap.size 2 A' m (flat encP M)) := fun W hb => (h2.below hb).reads encP_len
  have HL := Lib.hid (And.intro h1.1 h2.1)
  clear h1 h2
  go_enter Try.func50, Try.ntmps50
  go_wp2_with fail
  go_region_law (first
    | (refine step_append_any _ rfl (.const (.slice none 0 0)) (.tmp 4) _ rfl w.heap.size _ i0 _ 1 16 Try.underlying22 hi0 hz0 hz1 hz2 rfl (by omega) (.slice none 0 0) 0 [] rfl (World.ownsRow_nil _ _ _ _) w.heap.size A n c (flat encS L) (by simp [Act.eval]) (HS.out _ (by go_grown)) (one_flatS L) (by simp only [maxLen]; omega) (by omega) (by first | (simp; done) | (simp; omega) | omega) ?_; intro v1 w1 hown1 hg1 hat1; obtain ⟨A1, c1, rfl, _, _, _⟩ := own_form hown1; have hb1 : Below w.heap.size w w1 := Below.grown (by go_grown) hg1 (by first | (simp; done) | (simp; omega) | omega) (by simp [Value.ownBlock]); have hs1 := hg1.size; try simp only [World.size_alloc, World.size_drew] at hs1; have qa1 : w1.cell? ⟨w.heap.size, 0, none⟩ = some (.slice A n c) := (World.cell?_of_block (hg1.block w.heap.size (by first | (simp; done) | (simp; omega) | omega) (by simp [Value.ownBlock]))).trans (by first | assumption | simp); have qb1 : w1.cell? ⟨w.heap.size, 1, none⟩ = some (.slice A' m d) := (World.cell?_of_block (hg1.block w.heap.size (by first | (simp; done) | (simp; omega) | omega) (by simp [Value.ownBlock]))).trans (by first | assumption | simp))
    | (refine step_append_any _ rfl (.const (.slice none 0 0)) (.tmp 7) _ rfl w.heap.size _ i1 _ 2 24 Try.underlying23 hj0 hy0 hy1 hy2 rfl (by omega) (.slice none 0 0) 0 [] rfl (World.ownsRow_nil _ _ _ _) w.heap.size A' m d (flat encP M) (by simp [Act.eval]) (HC.out _ (by go_grown)) (one_flatP M) (by simp only [maxLen]; omega) (by omega) (by first | (simp; done) | (simp; omega) | omega) ?_; intro v2 w2 hown2 hg2 hat2; obtain ⟨A2, c2, rfl, _, _, _⟩ := own_form hown2; have hb2 : Below w.heap.size w w2 := Below.grown (by go_grown) hg2 (by first | (simp; done) | (simp; omega) | omega) (by simp [Value.ownBlock]); have hs2 := hg2.size; try simp only [World.size_alloc, World.size_drew] at hs2; have qa2 : w2.cell? ⟨w.heap.size, 0, none⟩ = some (.slice A n c) := (World.cell?_of_block (hg2.block w.heap.size (by first | (simp; done) | (simp; omega) | omega) (by simp [Value.ownBlock]))).trans (by first | assumption | simp); have qb2 : w2.cell? ⟨w.heap.size, 1, none⟩ = some (.slice A' m d) := (World.cell?_of_block (hg2.block w.heap.size (by first | (simp; done) | (simp; omega) | omega) (by simp [Value.ownBlock]))).trans (by first | assumption | simp)))
  all_goals go_wp2_with (with_reducible refine end_at ?_)
  all_goals
    refine end_ret (results_tmp rfl _ _ _) rfl ?_
    obtain ⟨rfl, rfl⟩ := HL.out
    refine ⟨_, rfl, ⟨A1, c1, A2, c2, by exact Blk.new _ _ _, ?_, ?_, by first | (simp; done) | (simp; omega) | omega⟩, by go_grown⟩
    · try simp only [Nat.zero_add, List.nil_append] at hown1
      first | exact hown1.alloc _ | exact (own_below hown1 (below_of_grown hg2) (Nat.le_refl _)).alloc _
    · try simp only [Nat.zero_add, List.nil_append] at hown2
      first | exact hown2.alloc _ | exact (own_below hown2 (below_of_grown hg1) (Nat.le_refl _)).alloc _
end Go.Proofs.Ytefodifmfjpnlaa
