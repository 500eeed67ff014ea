/- nonce: Open, the program's and the document's. -/
import Derived.Test.YtefodifmfjpnlaaDoorNonB
import Derived.Test.YtefodifmfjpnlaaDoorTwinS7
set_option linter.unusedVariables false
namespace Go.Proofs.YtefodifmfjpnlaaDoor
open Go.RowKit
structure Src where
  pos : Int
  next : Int
  limit : Int
def noSrc : Src := ⟨0, 0, 0⟩
def srcV (s : Src) : Value := .agg #[.int .i64 s.pos, .int .i64 s.next, .int .i64 s.limit]
def openN (p : Plat) (i : Int) : Src × Int :=
  if (getF p i).2.2 ≠ 0 then (noSrc, (getF p i).2.2)
  else if (getF p i).2.1 = false then (⟨i, 0, 0⟩, 0)
  else match numF (getF p i).1 with
    | some v => (⟨i, (v : Nat), (v : Nat)⟩, 0)
    | none => (noSrc, 150)
theorem numF_some {s : ByteArray} {v : Nat} (h : numF s = some v) : rnumF s = (v : Nat) ∧ v ≤ 1000000000 := by
  unfold numF at h
  split at h
  · rename_i h1
    injection h with h
    subst h
    exact ⟨by unfold rnumF; rw [if_pos h1.1], h1.2⟩
  · exact absurd h (by simp)
theorem numF_none {s : ByteArray} (h : numF s = none) : rnumF s < 0 ∨ 1000000000 < rnumF s := by
  unfold numF at h
  split at h
  · exact absurd h (by simp)
  · rename_i h1
    unfold rnumF
    split
    · rename_i h2
      right
      rcases Nat.lt_or_ge 1000000000 (valTo s.data.toList s.data.toList.length) with h3 | h3
      · omega
      · exact absurd ⟨h2, h3⟩ h1
    · left; decide
theorem get_size (p : Plat) (i : Int) : (getF p i).1.size ≤ 128 := by
  unfold getF
  repeat' split
  all_goals first | exact read_size _ _ | (simp; done) | exact (by decide : (⟨#[]⟩ : ByteArray).size ≤ 128)
/-- what a box of a source tells at the end -/
theorem src_load {W : World} {g : Nat} {a b c : Int} (h : Blk W g 28 #[.int .i64 a, .int .i64 b, .int .i64 c]) : (loadVar 28 ⟨g, 0, none⟩).run Tryd.prog W = .ok (.agg #[.int .i64 a, .int .i64 b, .int .i64 c]) W :=
  run_loadVar_row (P := Tryd.prog) W g 28 28 #[.int .i64 a, .int .i64 b, .int .i64 c] (0, 0) _ h Tryd.underlying28 rfl (by kernel_rfl)
theorem src_set {W : World} {g : Nat} {x y z : Value} (h : Blk W g 28 #[x, y, z]) (a b c : Int) :
    Blk (((W.setCell ⟨g, 0, none⟩ (.int .i64 a)).setCell ⟨g, 1, none⟩ (.int .i64 b)).setCell ⟨g, 2, none⟩ (.int .i64 c)) g 28 #[.int .i64 a, .int .i64 b, .int .i64 c] :=
  ((h.set_ 0 _).set_ 1 _).set_ 2 _
set_option maxRecDepth 100000 in
set_option maxHeartbeats 2000000 in
theorem nopen_any (p : Plat) (i : Int) (A A' : Option Addr) (n m c d : Nat) (w : World) (hP : PlatAt w w.heap.size A n A' m p) :
    Calls Tryd.prog 9 #[.agg #[.slice A n c, .slice A' m d], .int .i64 i] w fun e w' => e = .returned (.tuple #[srcV (openN p i).1, .int .i64 (openN p i).2]) ∧ Below w.heap.size w w' := by
  have HP := hP.pre
  obtain ⟨tx, th, er, hG⟩ : ∃ a b c, getF p i = (a, b, c) := ⟨_, _, _, rfl⟩
  have hsz := get_size p i
  rw [hG] at hsz
  have HG := Lib.hid hG
  obtain ⟨V, er2, hV⟩ : ∃ a b, openN p i = (a, b) := ⟨_, _, rfl⟩
  rw [hV]
  have HV := Lib.hid hV
  unfold openN at hV
  rw [hG] at hV
  simp only at hV hsz
  have HVV := Lib.hid hV
  clear hG hV hP
  go_enter Tryd.func9, Tryd.ntmps9
  go_wp2_with fail
  refine (get_any p i A A' n m c d _ (HP.step (by go_grown))).mono ?_
  rintro e w1 ⟨rfl, hb1⟩
  have hB1 : Below w.heap.size w w1 := Below.trans (by go_grown) (hb1.mono (by simp; omega))
  have hR1 : Blk w1 (w.heap.size + 1) 28 #[.int .i64 0, .int .i64 0, .int .i64 0] := (Blk.new_at (by simp) _ _).below hb1 (by simp)
  have hzr := hR1.lt
  have r0 := hR1.cells 0 _ rfl
  have r1 := hR1.cells 1 _ rfl
  have r2 := hR1.cells 2 _ rfl
  have rf := hR1.frozen
  simp only [List.getElem_toArray, List.getElem_cons_zero, List.getElem_cons_succ] at r0 r1 r2
  rw [HG.out]
  dsimp only
  have HR1 := Lib.hid hR1
  clear hb1 hR1
  by_cases he : er = 0
  · subst he
    have hv2 := HVV.out
    rw [if_neg (by decide)] at hv2
    cases th with
    | false =>
      rw [if_pos rfl] at hv2
      obtain ⟨rfl, rfl⟩ := Prod.mk.inj hv2
      clear hv2 HVV
      go_wp2_with (with_reducible refine end_at ?_)
      have hld := src_load ((src_set HR1.out i 0 0).alloc (.cells #[.int .i64 i, .int .i64 0, .int .i64 0] 56))
      refine end_ret (v := .tuple #[.agg #[.int .i64 i, .int .i64 0, .int .i64 0], .int .i64 0]) (by simp [results, Tryd.results9, asAddr, hld]) rfl ⟨rfl, ?_⟩
      go_grown
    | true =>
      rw [if_neg (by decide)] at hv2
      have HR2 := Lib.hid (HR1.out.alloc (.cells #[.int .i64 i, .int .i64 0, .int .i64 0] 56))
      have HB2 : Hid (Below w.heap.size w (w1.alloc (.cells #[.int .i64 i, .int .i64 0, .int .i64 0] 56))) := Lib.hid (hB1.alloc hB1.size _)
      clear HVV r0 r1 r2 rf
      have hB1s := hB1.size
      go_wp2_with fail
      refine (nread_any w1.heap.size tx i 0 0 _ (Blk.new _ _ _) (by omega)).mono ?_
      rintro e w2 (⟨v, hv, rfl, hw2⟩ | ⟨hv, rfl, hw2⟩)
      · rw [hv] at hv2
        obtain ⟨rfl, rfl⟩ := Prod.mk.inj hv2
        have hS : Blk w2 w1.heap.size 56 #[.int .i64 i, .int .i64 (v : Nat), .int .i64 (v : Nat)] := by
          rw [hw2]
          exact ((Blk.new w1 56 #[.int .i64 i, .int .i64 0, .int .i64 0]).set_ 1 _).set_ 2 _
        have HR3 : Blk w2 (w.heap.size + 1) 28 #[.int .i64 0, .int .i64 0, .int .i64 0] := by
          rw [hw2]
          exact (HR2.out.far (show w.heap.size + 1 ≠ w1.heap.size by omega) _).far (show w.heap.size + 1 ≠ w1.heap.size by omega) _
        have HB3 : Below w.heap.size w w2 := by
          rw [hw2]
          exact (HB2.out.setCell hB1s _).setCell hB1s _
        have s0 := hS.cells 0 _ rfl
        have s1 := hS.cells 1 _ rfl
        have s2 := hS.cells 2 _ rfl
        have r0 := HR3.cells 0 _ rfl
        have r1 := HR3.cells 1 _ rfl
        have r2 := HR3.cells 2 _ rfl
        have rf := HR3.frozen
        simp only [List.getElem_toArray, List.getElem_cons_zero, List.getElem_cons_succ] at s0 s1 s2 r0 r1 r2
        have HR4 := Lib.hid HR3
        clear hw2 hv2 hv HR3 hS
        go_wp2_with (with_reducible refine end_at ?_)
        have hld := src_load (src_set HR4.out i (v : Nat) (v : Nat))
        refine end_ret (v := .tuple #[.agg #[.int .i64 i, .int .i64 (v : Nat), .int .i64 (v : Nat)], .int .i64 0]) (by simp [results, Tryd.results9, asAddr, hld]) rfl ⟨rfl, ?_⟩
        go_grown
      · rw [hv] at hv2
        obtain ⟨rfl, rfl⟩ := Prod.mk.inj hv2
        have HR3 : Blk w2 (w.heap.size + 1) 28 #[.int .i64 0, .int .i64 0, .int .i64 0] := by
          rw [hw2]
          exact HR2.out
        have HB3 : Below w.heap.size w w2 := by
          rw [hw2]
          exact HB2.out
        have r0 := HR3.cells 0 _ rfl
        have r1 := HR3.cells 1 _ rfl
        have r2 := HR3.cells 2 _ rfl
        have rf := HR3.frozen
        simp only [List.getElem_toArray, List.getElem_cons_zero, List.getElem_cons_succ] at r0 r1 r2
        have HR4 := Lib.hid HR3
        clear hw2 hv2 hv HR3
        go_wp2_with (with_reducible refine end_at ?_)
        have hld := src_load (src_set HR4.out 0 0 0)
        refine end_ret (v := .tuple #[.agg #[.int .i64 0, .int .i64 0, .int .i64 0], .int .i64 150]) (by simp [results, Tryd.results9, asAddr, hld]) rfl ⟨rfl, ?_⟩
        go_grown
  · have hv2 := HVV.out
    rw [if_pos he] at hv2
    obtain ⟨rfl, rfl⟩ := Prod.mk.inj hv2
    have te : (er != 0) = true := by simp [he]
    clear hv2 HVV
    go_wp2_with (with_reducible refine end_at ?_)
    have hld := src_load (src_set HR1.out 0 0 0)
    refine end_ret (v := .tuple #[.agg #[.int .i64 0, .int .i64 0, .int .i64 0], .int .i64 er]) (by simp [results, Tryd.results9, asAddr, hld]) rfl ⟨rfl, ?_⟩
    go_grown
end Go.Proofs.YtefodifmfjpnlaaDoor
/- nonce: the document's Open. -/
namespace Go.Proofs.YtefodifmfjpnlaaDoor
open Go.RowKit
set_option maxRecDepth 100000 in
set_option maxHeartbeats 2000000 in
theorem ropen_any (p : Plat) (i : Int) (A A' : Option Addr) (n m c d : Nat) (w : World) (hP : PlatAt w w.heap.size A n A' m p) (hn : n ≤ 1000) (hm : m ≤ 1000) :
    Calls Tryd.prog 10 #[.agg #[.slice A n c, .slice A' m d], .int .i64 i] w fun e w' => e = .returned (.tuple #[srcV (openN p i).1, .int .i64 (openN p i).2]) ∧ Below w.heap.size w w' := by
  have HP := hP.pre
  obtain ⟨tx, th, er, hG⟩ : ∃ a b c, getF p i = (a, b, c) := ⟨_, _, _, rfl⟩
  have hsz := get_size p i
  rw [hG] at hsz
  have HG := Lib.hid hG
  obtain ⟨V, er2, hV⟩ : ∃ a b, openN p i = (a, b) := ⟨_, _, rfl⟩
  rw [hV]
  have HV := Lib.hid hV
  unfold openN at hV
  rw [hG] at hV
  simp only at hV hsz
  have HVV := Lib.hid hV
  clear hG hV hP
  go_enter Tryd.func10, Tryd.ntmps10
  go_wp2_with fail
  refine (refget_any p i A A' n m c d _ (HP.step (by go_grown)) hn hm).mono ?_
  rintro e w1 ⟨rfl, hb1⟩
  have hB1 : Below w.heap.size w w1 := Below.trans (by go_grown) (hb1.mono (by simp; omega))
  have hR1 : Blk w1 (w.heap.size + 1) 28 #[.int .i64 0, .int .i64 0, .int .i64 0] := (Blk.new_at (by simp) _ _).below hb1 (by simp)
  have hzr := hR1.lt
  have r0 := hR1.cells 0 _ rfl
  have r1 := hR1.cells 1 _ rfl
  have r2 := hR1.cells 2 _ rfl
  have rf := hR1.frozen
  simp only [List.getElem_toArray, List.getElem_cons_zero, List.getElem_cons_succ] at r0 r1 r2
  rw [HG.out]
  dsimp only
  have HR1 := Lib.hid hR1
  clear hb1 hR1
  by_cases he : er = 0
  · subst he
    have hv2 := HVV.out
    rw [if_neg (by decide)] at hv2
    cases th with
    | false =>
      rw [if_pos rfl] at hv2
      obtain ⟨rfl, rfl⟩ := Prod.mk.inj hv2
      clear hv2 HVV
      go_wp2_with (with_reducible refine end_at ?_)
      have hld := src_load (src_set HR1.out i 0 0)
      refine end_ret (v := .tuple #[.agg #[.int .i64 i, .int .i64 0, .int .i64 0], .int .i64 0]) (by simp [results, Tryd.results10, asAddr, hld]) rfl ⟨rfl, ?_⟩
      go_grown
    | true =>
      rw [if_neg (by decide)] at hv2
      clear HVV r0 r1 r2 rf
      have hB1s := hB1.size
      go_wp2_with fail
      refine (rnum_any tx w1 (by omega)).mono ?_
      rintro e w2 ⟨rfl, hb2⟩
      have HR3 := HR1.out.below hb2 hzr
      have HB3 := hB1.trans (hb2.mono hB1.size)
      have r0 := HR3.cells 0 _ rfl
      have r1 := HR3.cells 1 _ rfl
      have r2 := HR3.cells 2 _ rfl
      have rf := HR3.frozen
      simp only [List.getElem_toArray, List.getElem_cons_zero, List.getElem_cons_succ] at r0 r1 r2
      have HR4 := Lib.hid HR3
      clear HR3 hb2 HR1
      cases hv : numF tx with
      | some v =>
        rw [hv] at hv2
        obtain ⟨rfl, rfl⟩ := Prod.mk.inj hv2
        obtain ⟨hn1, hn2⟩ := numF_some hv
        rw [hn1]
        have u1 : decide ((v : Int) < 0) = false := by simp
        have u2 : decide (1000000000 < (v : Int)) = false := by simp; omega
        clear hn1 hv2 hv
        go_wp2_with (with_reducible refine end_at ?_)
        have hld := src_load (src_set HR4.out i (v : Nat) (v : Nat))
        refine end_ret (v := .tuple #[.agg #[.int .i64 i, .int .i64 (v : Nat), .int .i64 (v : Nat)], .int .i64 0]) (by simp [results, Tryd.results10, asAddr, hld]) rfl ⟨rfl, ?_⟩
        go_grown
      | none =>
        rw [hv] at hv2
        obtain ⟨rfl, rfl⟩ := Prod.mk.inj hv2
        have hno := numF_none hv
        obtain ⟨x, hx⟩ : ∃ x, rnumF tx = x := ⟨_, rfl⟩
        rw [hx] at hno ⊢
        have hc : decide (x < 0) = true ∨ (decide (x < 0) = false ∧ decide (1000000000 < x) = true) := by
          rcases Int.lt_or_le x 0 with h | h
          · exact .inl (by simp [h])
          · exact .inr ⟨by simp; omega, by simp; omega⟩
        clear hx hno hv hv2
        rcases hc with u1 | ⟨u1, u2⟩
        all_goals
          go_wp2_with (with_reducible refine end_at ?_)
          have hld := src_load (src_set HR4.out 0 0 0)
          refine end_ret (v := .tuple #[.agg #[.int .i64 0, .int .i64 0, .int .i64 0], .int .i64 150]) (by simp [results, Tryd.results10, asAddr, hld]) rfl ⟨rfl, ?_⟩
          go_grown
  · have hv2 := HVV.out
    rw [if_pos he] at hv2
    obtain ⟨rfl, rfl⟩ := Prod.mk.inj hv2
    have te : (er != 0) = true := by simp [he]
    clear hv2 HVV
    go_wp2_with (with_reducible refine end_at ?_)
    have hld := src_load (src_set HR1.out 0 0 0)
    refine end_ret (v := .tuple #[.agg #[.int .i64 0, .int .i64 0, .int .i64 0], .int .i64 er]) (by simp [results, Tryd.results10, asAddr, hld]) rfl ⟨rfl, ?_⟩
    go_grown
end Go.Proofs.YtefodifmfjpnlaaDoor
