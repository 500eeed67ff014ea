/- platter.Read whole; Write, Sync, Crash, New. -/
import Derived.Test.YtefodifmfjpnlaaDoorPlatJ
import Derived.Laws.MakeOwn
import Derived.Laws.OwnMore
set_option linter.unusedVariables false
namespace Go.Proofs.YtefodifmfjpnlaaDoor
open Go.RowKit

set_option maxRecDepth 100000 in
set_option maxHeartbeats 1000000 in
theorem read_bad (p : Plat) (i : Int) (er : Int) (A A' : Option Addr) (n m c d : Nat) (w : World) (HP : PlatPre w A n A' m p) (hn : p.sectors.length = n)
    (hr : (checkP p = false ∧ er = 1) ∨ (checkP p = true ∧ hasB n i = false ∧ er = 130)) :
    Calls Tryd.prog 34 #[.agg #[.slice A n c, .slice A' m d], .int .i64 i] w (OutR w (ByteArray.empty, er)) := by
  have HN := Lib.hid hn
  clear hn
  rcases hr with ⟨hc, rfl⟩ | ⟨hc, hh, rfl⟩
  · go_enter Tryd.func34, Tryd.ntmps34
    go_wp2_with fail
    refine (checkP_any p A A' n m c d _ (HP.step (by go_grown))).mono ?_
    rintro e w1 ⟨rfl, hb1⟩
    rw [hc]
    have hB1 : Below w.heap.size w w1 := Below.trans (by go_grown) (hb1.mono (by simp; omega))
    have hr2 := ((Blk.new_at (g := w.heap.size + 1 + 1) (by simp) _ _).alloc _).below hb1 (by simp)
    have hr3 := (Blk.new_at (g := w.heap.size + 1 + 1 + 1) (by simp) _ _).below hb1 (by simp)
    have s0 := hr2.cells 0 _ rfl
    have s1 := hr3.cells 0 _ rfl
    have fs := hr2.frozen
    have ft := hr3.frozen
    simp only [List.getElem_toArray, List.getElem_cons_zero] at s0 s1
    clear hr2 hr3 hb1
    go_wp2_with (with_reducible refine end_at ?_)
    refine end_ret (v := .tuple #[.string ⟨#[]⟩, .int .i64 1]) (by simp [results, Tryd.results34, go_sem, s0, s1]; try rfl) rfl ⟨rfl, by go_grown⟩
  · go_enter Tryd.func34, Tryd.ntmps34
    go_wp2_with fail
    refine (checkP_any p A A' n m c d _ (HP.step (by go_grown))).mono ?_
    rintro e w1 ⟨rfl, hb1⟩
    rw [hc]
    have hr1 := ((((Blk.new w _ _).alloc _).alloc _).alloc _).below hb1 (by simp; omega)
    have hri := (((Blk.new_at (g := w.heap.size + 1) (by simp) _ _).alloc _).alloc _).below hb1 (by first | (simp; done) | (simp; omega))
    have q0 := hr1.cells 0 _ rfl
    have q1 := hr1.cells 1 _ rfl
    have r0 := hri.cells 0 _ rfl
    simp only [List.getElem_toArray, List.getElem_cons_zero, List.getElem_cons_succ] at q0 q1 r0
    clear hr1 hri
    go_wp2_with fail
    refine (has_any p n m A A' c d i _ HN.out).mono ?_
    rintro e w2 ⟨rfl, hb2⟩
    rw [HN.out, hh]
    have hb3 := hb1.trans (hb2.mono hb1.size)
    have hB3 : Below w.heap.size w w2 := Below.trans (by go_grown) (hb3.mono (by simp; omega))
    have hr2 := ((Blk.new_at (g := w.heap.size + 1 + 1) (by simp) _ _).alloc _).below hb3 (by simp)
    have hr3 := (Blk.new_at (g := w.heap.size + 1 + 1 + 1) (by simp) _ _).below hb3 (by simp)
    have s0 := hr2.cells 0 _ rfl
    have s1 := hr3.cells 0 _ rfl
    have fs := hr2.frozen
    have ft := hr3.frozen
    simp only [List.getElem_toArray, List.getElem_cons_zero] at s0 s1
    clear hr2 hr3 hb1 hb2 hb3 q0 q1 r0
    go_wp2_with (with_reducible refine end_at ?_)
    refine end_ret (v := .tuple #[.string ⟨#[]⟩, .int .i64 130]) (by simp [results, Tryd.results34, go_sem, s0, s1]; try rfl) rfl ⟨rfl, by go_grown⟩

theorem read_any (p : Plat) (i : Int) (A A' : Option Addr) (n m c d : Nat) (w : World) (hP : PlatAt w w.heap.size A n A' m p) :
    Calls Tryd.prog 34 #[.agg #[.slice A n c, .slice A' m d], .int .i64 i] w (OutR w (readF p i)) := by
  have hn := hP.1.1
  have hm := hP.2.1
  unfold readF
  by_cases hc : checkP p = true
  · obtain ⟨_, h200, h100, _⟩ := (checkP_iff p).1 hc
    rw [if_pos hc, hn]
    by_cases hh : hasB n i = true
    · rw [if_pos hh]
      simp [hasB] at hh
      obtain ⟨j, rfl⟩ := Int.eq_ofNat_of_zero_le hh.1
      rw [Int.toNat_natCast]
      exact read_ok p j A A' n m c d w hP.pre hn hm (by omega) (by omega) hc (by omega)
    · rw [if_neg hh]
      exact read_bad p i 130 A A' n m c d w hP.pre hn (.inr ⟨hc, by simpa using hh, rfl⟩)
  · rw [if_neg hc]
    exact read_bad p i 1 A A' n m c d w hP.pre hn (.inl ⟨by simpa using hc, rfl⟩)

set_option maxRecDepth 100000 in
set_option maxHeartbeats 1000000 in
theorem write_any (p : Plat) (i : Int) (s : ByteArray) (A A' : Option Addr) (n m c d : Nat) (w : World) (hP : PlatAt w w.heap.size A n A' m p) :
    Calls Tryd.prog 40 #[.agg #[.slice A n c, .slice A' m d], .int .i64 i, .string s] w (Out2P w (writeF p i s)) := by
  have HP := hP.pre
  have hm := hP.2.1
  have e0 : writeF p i s = oneF p i s (decide (100 ≤ (m : Int))) := by unfold writeF; rw [hm]; congr 1; simp; omega
  rw [e0]
  clear hP hm e0
  generalize hr : oneF p i s (decide (100 ≤ (m : Int))) = r
  have HR := Lib.hid hr
  clear hr
  obtain ⟨q, er⟩ := r
  go_enter Tryd.func40, Tryd.ntmps40
  go_wp2_with fail
  refine (one_any p i s (decide (100 ≤ (m : Int))) A A' n m c d _ (HP.step (by go_grown))).mono ?_
  rintro e w1 ⟨v, rfl, ⟨A1, c1, A2, c2, rfl, hown1, hown2⟩, hb1⟩
  rw [HR.out] at hown1 hown2 ⊢
  have hB1 : Below w.heap.size w w1 := Below.trans (by go_grown) (hb1.mono (by simp; omega))
  have hr2 := (Blk.new_at (g := w.heap.size + 1) (by simp) _ _).below hb1 (by simp)
  have s0 := hr2.cells 0 _ rfl
  have s1 := hr2.cells 1 _ rfl
  have fs := hr2.frozen
  simp only [List.getElem_toArray, List.getElem_cons_zero, List.getElem_cons_succ, World.size_alloc] at s0 s1 hown1 hown2
  have HO := Lib.hid (And.intro hown1 hown2)
  clear hr2 hb1 hown1 hown2
  go_wp2_with (with_reducible refine end_at ?_)
  refine end_ret (v := .tuple #[.agg #[.slice A1 q.sectors.length c1, .slice A2 q.cache.length c2], .int .i64 er]) (by simp [results, Tryd.results40, go_sem, s0, s1]; try rfl) rfl ⟨_, rfl, ⟨A1, c1, A2, c2, rfl, own_base (base := w.heap.size + 1 + 1) ?_ (by omega), own_base (base := w.heap.size + 1 + 1) ?_ (by omega)⟩, by go_grown⟩
  · have h1 := HO.out.1
    repeat' (first | (with_reducible exact h1) | (with_reducible refine ownsRow_setCell_below ?_ (by first | (simp; done) | (simp; omega)) _))
  · have h1 := HO.out.2
    repeat' (first | (with_reducible exact h1) | (with_reducible refine ownsRow_setCell_below ?_ (by first | (simp; done) | (simp; omega)) _))

def syncF (p : Plat) : Plat × Int := settleF p fun _ => 1
def crashF (p : Plat) (F : List Int) : Plat × Int := settleF p fun k => F.getD k 0

set_option maxRecDepth 100000 in
set_option maxHeartbeats 1000000 in
theorem sync_any (p : Plat) (A A' : Option Addr) (n m c d : Nat) (w : World) (hP : PlatAt w w.heap.size A n A' m p) :
    Calls Tryd.prog 43 #[.agg #[.slice A n c, .slice A' m d]] w (Out2P w (syncF p)) := by
  have HP := hP.pre
  clear hP
  generalize hr : syncF p = r
  have HR : Hid (settleF p (fun _ => 1) = r) := hr
  clear hr
  obtain ⟨q, er⟩ := r
  go_enter Tryd.func43, Tryd.ntmps43
  go_wp2_with fail
  refine (settle_sync p A A' n m c d _ (HP.step (by go_grown))).mono ?_
  rintro e w1 ⟨v, rfl, ⟨A1, c1, A2, c2, rfl, hown1, hown2⟩, hb1⟩
  rw [HR.out] at hown1 hown2 ⊢
  have hB1 : Below w.heap.size w w1 := Below.trans (by go_grown) (hb1.mono (by simp; omega))
  have hr2 := (Blk.new_at (g := w.heap.size + 1) (by simp) _ _).below hb1 (by simp)
  have s0 := hr2.cells 0 _ rfl
  have s1 := hr2.cells 1 _ rfl
  have fs := hr2.frozen
  simp only [List.getElem_toArray, List.getElem_cons_zero, List.getElem_cons_succ, World.size_alloc] at s0 s1 hown1 hown2
  have HO := Lib.hid (And.intro hown1 hown2)
  clear hr2 hb1 hown1 hown2
  go_wp2_with (with_reducible refine end_at ?_)
  refine end_ret (v := .tuple #[.agg #[.slice A1 q.sectors.length c1, .slice A2 q.cache.length c2], .int .i64 er]) (by simp [results, Tryd.results43, go_sem, s0, s1]; try rfl) rfl ⟨_, rfl, ⟨A1, c1, A2, c2, rfl, own_base (base := w.heap.size + 1 + 1) ?_ (by omega), own_base (base := w.heap.size + 1 + 1) ?_ (by omega)⟩, by go_grown⟩
  · have h1 := HO.out.1
    repeat' (first | (with_reducible exact h1) | (with_reducible refine ownsRow_setCell_below ?_ (by first | (simp; done) | (simp; omega)) _))
  · have h1 := HO.out.2
    repeat' (first | (with_reducible exact h1) | (with_reducible refine ownsRow_setCell_below ?_ (by first | (simp; done) | (simp; omega)) _))

set_option maxRecDepth 100000 in
set_option maxHeartbeats 1000000 in
theorem crash_any (p : Plat) (F : List Int) (AF : Option Addr) (nF cF : Nat) (A A' : Option Addr) (n m c d : Nat) (w : World) (hP : PlatAt w w.heap.size A n A' m p)
    (hS : SlR encI 1 w w.heap.size AF nF F) (hn : nF ≤ 140737488355328) (hF : ∀ x ∈ F, x ≤ 9223372036854775807) :
    Calls Tryd.prog 19 #[.agg #[.slice A n c, .slice A' m d], .slice AF nF cF] w (Out2P w (crashF p F)) := by
  have HP := hP.pre
  have HS : Hid (∀ W, Below w.heap.size w W → SlR encI 1 W W.heap.size AF nF F) := fun W hb => (hS.below hb).more hb.size
  have HF := Lib.hid hF
  clear hP hS hF
  generalize hr : crashF p F = r
  have HR : Hid (settleF p (fun k => F.getD k 0) = r) := hr
  clear hr
  obtain ⟨q, er⟩ := r
  go_enter Tryd.func19, Tryd.ntmps19
  go_wp2_with fail
  refine (settle_crash p F (w.heap.size + 1) AF nF cF A A' n m c d _ (HP.step (by go_grown)) (by simp [go_sem]) (by first | (simp; done) | (simp; omega)) (HS.out _ (by go_grown)) hn HF.out).mono ?_
  rintro e w1 ⟨v, rfl, ⟨A1, c1, A2, c2, rfl, hown1, hown2⟩, hb1⟩
  rw [HR.out] at hown1 hown2 ⊢
  have hB1 : Below w.heap.size w w1 := Below.trans (by go_grown) (hb1.mono (by simp; omega))
  have hr2 := (Blk.new_at (g := w.heap.size + 1 + 1) (by simp) _ _).below hb1 (by simp)
  have s0 := hr2.cells 0 _ rfl
  have s1 := hr2.cells 1 _ rfl
  have fs := hr2.frozen
  simp only [List.getElem_toArray, List.getElem_cons_zero, List.getElem_cons_succ, World.size_alloc] at s0 s1 hown1 hown2
  have HO := Lib.hid (And.intro hown1 hown2)
  clear hr2 hb1 hown1 hown2
  go_wp2_with (with_reducible refine end_at ?_)
  refine end_ret (v := .tuple #[.agg #[.slice A1 q.sectors.length c1, .slice A2 q.cache.length c2], .int .i64 er]) (by simp [results, Tryd.results19, go_sem, s0, s1]; try rfl) rfl ⟨_, rfl, ⟨A1, c1, A2, c2, rfl, own_base (base := w.heap.size + 1 + 1 + 1) ?_ (by omega), own_base (base := w.heap.size + 1 + 1 + 1) ?_ (by omega)⟩, by go_grown⟩
  · have h1 := HO.out.1
    repeat' (first | (with_reducible exact h1) | (with_reducible refine ownsRow_setCell_below ?_ (by first | (simp; done) | (simp; omega)) _))
  · have h1 := HO.out.2
    repeat' (first | (with_reducible exact h1) | (with_reducible refine ownsRow_setCell_below ?_ (by first | (simp; done) | (simp; omega)) _))
end Go.Proofs.YtefodifmfjpnlaaDoor
/- platter.New, and the reference's. -/
namespace Go.Proofs.YtefodifmfjpnlaaDoor
open Go.RowKit
theorem run_make_rowN {P : Program} (t e : TypeId) (i : TypeInfo) (z : Value) (ht : P.underlying t = some (.slice e)) (hi : P.info? e = some i) (hz : i.zero = some z)
    (kl kc : IntKind) (n c : Nat) (hnc : n ≤ c) (hbytes : i.bytes * c ≤ 281474976710656) (h63 : c ≤ 9223372036854775807) (w : World) :
    (Instr.makeSlice t (.int kl (n : Int)) (.int kc (c : Int))).run P w = .ok (.slice (some ⟨w.heap.size, 0, none⟩) n c) (w.alloc (.cells (madeCells z.cells (c * i.size)) e)) := by
  have hb : (i.bytes : Int) * (c : Int) ≤ 281474976710656 := by
    have h : ((i.bytes * c : Nat) : Int) ≤ 281474976710656 := by omega
    rwa [Int.natCast_mul] at h
  have hr := run_make (P := P) w t e i z ht hi hz kl kc n c (by omega) (by omega) hb (by omega)
  simp only [Int.toNat_natCast] at hr
  exact hr
theorem own_made {w : World} {B : Nat} (n : Nat) (hB : B ≤ w.heap.size) (hn : n ≤ maxLen) : (w.alloc (.cells (madeCells #[.string ByteArray.empty] n) 9)).ownsRow B 9 1 (.slice (some ⟨w.heap.size, 0, none⟩) n n) n (flat encS (List.replicate n ByteArray.empty)) := by
  have hf : flat encS (List.replicate n ByteArray.empty) = List.replicate n (.string ByteArray.empty) := by
    induction n with
    | zero => rfl
    | succ n ih => rw [List.replicate_succ, List.replicate_succ, ← ih (by omega)]; rfl
  refine ⟨by rw [hf]; simp, .inr ⟨w.heap.size, n, _, rfl, hB, heap_alloc_new w _, Nat.le_refl _, hn, by rw [size_madeCells]; omega, ?_⟩⟩
  rw [hf, toList_madeCells_one, Nat.mul_one, List.take_of_length_le (by simp)]
def newF (n : Int) : Plat × Int := if 1 ≤ n ∧ n ≤ 200 then (⟨List.replicate n.toNat ByteArray.empty, []⟩, 0) else (noPlat, 1)

set_option maxRecDepth 100000 in
set_option maxHeartbeats 400000 in
theorem new_any (n : Int) (w : World) : Calls Tryd.prog 18 #[.int .i64 n] w (Out2P w (newF n)) := by
  unfold newF
  by_cases h : 1 ≤ n ∧ n ≤ 200
  · rw [if_pos h]
    obtain ⟨h1, h2⟩ := h
    obtain ⟨k, rfl⟩ := Int.eq_ofNat_of_zero_le (show 0 ≤ n by omega)
    rw [Int.toNat_natCast]
    obtain ⟨i0, hi0, hz0, hz1, hz2⟩ := info_parts str_info
    have hmk := fun W => run_make_rowN (P := Tryd.prog) 22 9 i0 _ Tryd.underlying22 hi0 hz0 .i64 .i64 k k (Nat.le_refl _) (by rw [hz2]; omega) (by omega) W
    simp only [hz1, Nat.mul_one, Value.cells] at hmk
    have HO := Lib.hid (fun cs => own_made (w := w.alloc (.cells cs 25)) (B := w.heap.size) k (by simp) (by simp only [maxLen]; omega))
    generalize hmc : madeCells #[.string ByteArray.empty] k = mc at hmk HO
    clear hmc hz0 hz1 hz2 hi0
    go_enter Tryd.func18, Tryd.ntmps18
    go_wp2_with (with_reducible refine end_at ?_)
    refine end_ret (v := .tuple #[.agg #[.slice (some ⟨w.heap.size + 1, 0, none⟩) k k, .slice none 0 0], .int .i64 0]) (by simp [results, Tryd.results18, go_sem]; try rfl) rfl ⟨_, rfl, ⟨some ⟨w.heap.size + 1, 0, none⟩, k, none, 0, by simp, ?_, World.ownsRow_nil _ _ _ _⟩, by go_grown⟩
    have h1 := HO.out
    simp only [World.size_alloc] at h1
    simp only [List.length_replicate]
    exact h1 _
  · rw [if_neg h]
    by_cases h1 : n < 1
    · go_enter Tryd.func18, Tryd.ntmps18
      go_wp2_with (with_reducible refine end_at ?_)
      refine end_ret (v := .tuple #[.agg #[.slice none 0 0, .slice none 0 0], .int .i64 1]) (by simp [results, Tryd.results18, go_sem]; try rfl) rfl ⟨_, rfl, PlatOut.none_ _ _, by go_grown⟩
    · have h2 : 200 < n := by omega
      clear h
      go_enter Tryd.func18, Tryd.ntmps18
      go_wp2_with (with_reducible refine end_at ?_)
      refine end_ret (v := .tuple #[.agg #[.slice none 0 0, .slice none 0 0], .int .i64 1]) (by simp [results, Tryd.results18, go_sem]; try rfl) rfl ⟨_, rfl, PlatOut.none_ _ _, by go_grown⟩

end Go.Proofs.YtefodifmfjpnlaaDoor
