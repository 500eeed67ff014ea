/- platter.New, and the reference's. -/
import Derived.Test.YtefodifmfjpnlaaPlatK
import Derived.Laws.MakeOwn
import Derived.Laws.OwnMore
set_option linter.unusedVariables false
namespace Go.Proofs.Ytefodifmfjpnlaa
open Go.RowKit
theorem run_make_rowN {P : Program} (t e : TypeId) (i : TypeInfo) (z : Value) (ht : P.underlying t = some (.slice e)) (hi : P.info? e = some i) (hz : i.zero = some z)
    (kl kc : IntKind) (n c : Nat) (hnc : n ≤ c) (hbytes : i.bytes * c ≤ 281474976710656) (h63 : c ≤ 9223372036854775807) (w : World) :
    (Instr.makeSlice t (.int kl (n : Int)) (.int kc (c : Int))).run P w = .ok (.slice (some ⟨w.heap.size, 0, none⟩) n c) (w.alloc (.cells (madeCells z.cells (c * i.size)) e)) := by
  have hb : (i.bytes : Int) * (c : Int) ≤ 281474976710656 := by
    have h : ((i.bytes * c : Nat) : Int) ≤ 281474976710656 := by omega
    rwa [Int.natCast_mul] at h
  have hr := run_make (P := P) w t e i z ht hi hz kl kc n c (by omega) (by omega) hb (by omega)
  simp only [Int.toNat_natCast] at hr
  exact hr
theorem own_made {w : World} {B : Nat} (n : Nat) (hB : B ≤ w.heap.size) (hn : n ≤ maxLen) : (w.alloc (.cells (madeCells #[.string ByteArray.empty] n) 9)).ownsRow B 9 1 (.slice (some ⟨w.heap.size, 0, none⟩) n n) n (flat encS (List.replicate n ByteArray.empty)) := by
  have hf : flat encS (List.replicate n ByteArray.empty) = List.replicate n (.string ByteArray.empty) := by
    induction n with
    | zero => rfl
    | succ n ih => rw [List.replicate_succ, List.replicate_succ, ← ih (by omega)]; rfl
  refine ⟨by rw [hf]; simp, .inr ⟨w.heap.size, n, _, rfl, hB, heap_alloc_new w _, Nat.le_refl _, hn, by rw [size_madeCells]; omega, ?_⟩⟩
  rw [hf, toList_madeCells_one, Nat.mul_one, List.take_of_length_le (by simp)]
def newF (n : Int) : Plat × Int := if 1 ≤ n ∧ n ≤ 200 then (⟨List.replicate n.toNat ByteArray.empty, []⟩, 0) else (noPlat, 1)

set_option maxHeartbeats 400000 in
theorem new_any (n : Int) (w : World) : Calls Try.prog 12 #[.int .i64 n] w (Out2P w (newF n)) := by
  unfold newF
  by_cases h : 1 ≤ n ∧ n ≤ 200
  · rw [if_pos h]
    obtain ⟨h1, h2⟩ := h
    obtain ⟨k, rfl⟩ := Int.eq_ofNat_of_zero_le (show 0 ≤ n by omega)
    rw [Int.toNat_natCast]
    obtain ⟨i0, hi0, hz0, hz1, hz2⟩ := info_parts str_info
    have hmk := fun W => run_make_rowN (P := Try.prog) 22 9 i0 _ Try.underlying22 hi0 hz0 .i64 .i64 k k (Nat.le_refl _) (by rw [hz2]; omega) (by omega) W
    simp only [hz1, Nat.mul_one, Value.cells] at hmk
    have HO := Lib.hid (fun cs => own_made (w := w.alloc (.cells cs 25)) (B := w.heap.size) k (by simp) (by simp only [maxLen]; omega))
    generalize hmc : madeCells #[.string ByteArray.empty] k = mc at hmk HO
    clear hmc hz0 hz1 hz2 hi0
    go_enter Try.func12, Try.ntmps12
    go_wp2_with (with_reducible refine end_at ?_)
    refine end_ret (v := .tuple #[.agg #[.slice (some ⟨w.heap.size + 1, 0, none⟩) k k, .slice none 0 0], .int .i64 0]) (by simp [results, Try.results12, go_sem]; try rfl) rfl ⟨_, rfl, ⟨some ⟨w.heap.size + 1, 0, none⟩, k, none, 0, by simp, ?_, World.ownsRow_nil _ _ _ _⟩, by go_grown⟩
    have h1 := HO.out
    simp only [World.size_alloc] at h1
    simp only [List.length_replicate]
    exact h1 _
  · rw [if_neg h]
    by_cases h1 : n < 1
    · go_enter Try.func12, Try.ntmps12
      go_wp2_with (with_reducible refine end_at ?_)
      refine end_ret (v := .tuple #[.agg #[.slice none 0 0, .slice none 0 0], .int .i64 1]) (by simp [results, Try.results12, go_sem]; try rfl) rfl ⟨_, rfl, PlatOut.none_ _ _, by go_grown⟩
    · have h2 : 200 < n := by omega
      clear h
      go_enter Try.func12, Try.ntmps12
      go_wp2_with (with_reducible refine end_at ?_)
      refine end_ret (v := .tuple #[.agg #[.slice none 0 0, .slice none 0 0], .int .i64 1]) (by simp [results, Try.results12, go_sem]; try rfl) rfl ⟨_, rfl, PlatOut.none_ _ _, by go_grown⟩

set_option maxHeartbeats 400000 in
theorem refnew_any (n : Int) (w : World) : Calls Try.prog 13 #[.int .i64 n] w (Out2P w (newF n)) := by
  unfold newF
  by_cases h : 1 ≤ n ∧ n ≤ 200
  · rw [if_pos h]
    obtain ⟨h1, h2⟩ := h
    obtain ⟨k, rfl⟩ := Int.eq_ofNat_of_zero_le (show 0 ≤ n by omega)
    rw [Int.toNat_natCast]
    obtain ⟨i0, hi0, hz0, hz1, hz2⟩ := info_parts str_info
    have hmk := fun W => run_make_rowN (P := Try.prog) 22 9 i0 _ Try.underlying22 hi0 hz0 .i64 .i64 k k (Nat.le_refl _) (by rw [hz2]; omega) (by omega) W
    simp only [hz1, Nat.mul_one, Value.cells] at hmk
    have HO := Lib.hid (fun cs => own_made (w := w.alloc (.cells cs 25)) (B := w.heap.size) k (by simp) (by simp only [maxLen]; omega))
    generalize hmc : madeCells #[.string ByteArray.empty] k = mc at hmk HO
    clear hmc hz0 hz1 hz2 hi0
    go_enter Try.func13, Try.ntmps13
    go_wp2_with (with_reducible refine end_at ?_)
    refine end_ret (v := .tuple #[.agg #[.slice (some ⟨w.heap.size + 1, 0, none⟩) k k, .slice none 0 0], .int .i64 0]) (by simp [results, Try.results13, go_sem]; try rfl) rfl ⟨_, rfl, ⟨some ⟨w.heap.size + 1, 0, none⟩, k, none, 0, by simp, ?_, World.ownsRow_nil _ _ _ _⟩, by go_grown⟩
    have h1 := HO.out
    simp only [World.size_alloc] at h1
    simp only [List.length_replicate]
    exact h1 _
  · rw [if_neg h]
    by_cases h1 : n < 1
    · go_enter Try.func13, Try.ntmps13
      go_wp2_with (with_reducible refine end_at ?_)
      refine end_ret (v := .tuple #[.agg #[.slice none 0 0, .slice none 0 0], .int .i64 1]) (by simp [results, Try.results13, go_sem]; try rfl) rfl ⟨_, rfl, PlatOut.none_ _ _, by go_grown⟩
    · have h2 : 200 < n := by omega
      clear h
      go_enter Try.func13, Try.ntmps13
      go_wp2_with (with_reducible refine end_at ?_)
      refine end_ret (v := .tuple #[.agg #[.slice none 0 0, .slice none 0 0], .int .i64 1]) (by simp [results, Try.results13, go_sem]; try rfl) rfl ⟨_, rfl, PlatOut.none_ _ _, by go_grown⟩
end Go.Proofs.Ytefodifmfjpnlaa
