/- nonce: Next. -/
import Derived.Test.YtpkomloblhbkiaaGreatDoorTwinF
import Derived.Test.YtpkomloblhbkiaaGreatDoorNonB
import Derived.Deep.CutRange
import Derived.BigQuiet
import Derived.Deep.DeepCutAuto
import Derived.BigRegion
set_option linter.unusedVariables false
/- chapter 14, plain: a Put that is stopped, and a crash behind it (for TwinCrash and TwinRow). -/
namespace Go.Proofs.YtpkomloblhbkiaaGreatDoor
open Go.RowKit
/-- what is read behind a crash of a platter that one text waits on -/
theorem crash_one {p : Plat} {i : Int} {s : ByteArray} (hp : p.cache = []) (h : (writeF p i s).2 = 0) (F : List Int) :
    ∃ x : ByteArray, (∀ o, readF (crashF (writeF p i s).1 F).1 o = if o = i then (x, 0) else readF p o) ∧
      (x = (readF p i).1 ∨ x = s ∨ ∃ n, x = mixB (readF p i).1 s n) := by
  obtain ⟨hc, hi, hs, hl, e⟩ := write_ok h
  have hc' := write_check h
  rw [e] at hc' ⊢
  obtain ⟨S, C⟩ := p
  dsimp only at hp
  subst hp
  dsimp only [List.nil_append] at hc' e ⊢
  have hn := (hasB_iff _ _).1 hi
  dsimp only at hn
  obtain ⟨j, rfl⟩ := Int.eq_ofNat_of_zero_le hn.1
  have hj : j < S.length := by omega
  have er : readF ⟨S, []⟩ (j : Int) = (S.getD j ByteArray.empty, 0) := by
    rw [readF_ok hc, if_pos hi]
    simp [readOf_bare]
  have ec : crashF ⟨S, [⟨(j : Int), s⟩]⟩ F = (⟨(fallF ⟨S, [⟨(j : Int), s⟩]⟩ ⟨(j : Int), s⟩ (F.getD 0 0)).sectors, []⟩, 0) := by
    unfold crashF settleF
    rw [if_pos hc']
    rfl
  obtain ⟨_, c2, _, c4, _⟩ := crash_ok hc' F
  rw [ec] at c2 c4 ⊢
  dsimp only at c2 c4 ⊢
  generalize hS : (fallF ⟨S, [⟨(j : Int), s⟩]⟩ ⟨(j : Int), s⟩ (F.getD 0 0)).sectors = S' at c2 c4 ⊢
  have hfar : ∀ k : Nat, k ≠ j → S'[k]? = S[k]? := by
    intro k hk
    rw [← hS]
    exact fallF_far ⟨S, _⟩ ⟨(j : Int), s⟩ _ k (by simp) (by simp; omega)
  refine ⟨S'.getD j ByteArray.empty, fun o => ?_, ?_⟩
  · by_cases ho : o = (j : Int)
    · subst ho
      rw [if_pos rfl, readF_ok c4, c2, if_pos hi]
      simp [readOf_bare]
    · rw [if_neg ho, readF_ok c4, readF_ok hc, c2]
      dsimp only
      by_cases hb : hasB S.length o = true
      · have hb' := (hasB_iff _ _).1 hb
        rw [if_pos hb, if_pos hb, readOf_bare, readOf_bare]
        simp only [List.getD, hfar o.toNat (by omega)]
      · rw [if_neg hb, if_neg hb]
  · rw [er, ← hS]
    unfold fallF
    dsimp only
    split
    · exact .inl rfl
    · split
      · refine .inr (.inl ?_)
        simp [List.getD, hj]
      · refine .inr (.inr ⟨(F.getD 0 0 - 2).toNat, ?_⟩)
        simp [List.getD, hj]
/-- a crash of a platter whose cache is empty is nothing -/
theorem crash_bare {p : Plat} (hc : checkP p = true) (h : p.cache = []) (F : List Int) : crashF p F = (p, 0) := settle_bare hc h _
/-- a mark that falls on another one -/
theorem mix_mark {old mark : ByteArray} {n : Nat} (ho : old.size ≤ 1) (hm : mark.size = 1) : mixB old mark n = old ∨ mixB old mark n = mark := by
  unfold mixB
  rcases Nat.eq_zero_or_pos n with rfl | hn
  · left
    by_cases h : 0 < old.size
    · rw [if_pos h]
      apply ByteArray.ext
      simp
    · rw [if_neg h]
      have : old = ByteArray.empty := by
        apply ByteArray.ext
        apply Array.eq_empty_of_size_eq_zero
        show old.size = 0
        omega
      subst this
      apply ByteArray.ext
      simp
  · right
    rw [if_neg (by omega)]
    have : min n mark.size = mark.size := by omega
    rw [this]
    simp
end Go.Proofs.YtpkomloblhbkiaaGreatDoor
/- chapter 14, plain: what Get tells behind a Put that is stopped, and a crash. -/
namespace Go.Proofs.YtpkomloblhbkiaaGreatDoor
open Go.RowKit
/-- Get looks at the mark and the body that it tells -/
theorem getF_same {p q : Plat} {i : Int} (h0 : readF q i = readF p i) (h1 : ∀ far, (bodyF (readF p i).1) = (far, true) → readF q (i + far) = readF p (i + far)) : getF q i = getF p i := by
  unfold getF
  rw [h0]
  by_cases h : (bodyF (readF p i).1).2 = true
  · have := h1 (bodyF (readF p i).1).1 (by rw [← h])
    rw [this]
  · simp only [h, Bool.false_eq_true, if_false]
theorem empty_of {m : ByteArray} (h : m.toList = []) : m = ⟨#[]⟩ := by
  apply bytes_ext
  rw [h]; kernel_rfl
/-- the old mark, the new one, and how far its body is -/
theorem marks {p : Plat} {i : Int} (hg : (getF p i).2.2 = 0) : ∃ (m M : ByteArray) (far : Int), readF p i = (m, 0) ∧ markF m = M ∧ bodyF M = (far, true) ∧ M.size = 1 ∧ m.size ≤ 1 ∧ 1 ≤ far ∧ far ≤ 2 ∧ M.toList ≠ [] ∧ (∀ far', bodyF m = (far', true) → far' ≠ far) := by
  obtain ⟨⟨m, hm⟩, h⟩ := get_ok hg
  rw [hm] at h
  dsimp only at h
  rcases h with ⟨h, _⟩ | ⟨f, h, _⟩
  · obtain rfl := empty_of h
    refine ⟨_, ⟨#[48]⟩, 1, hm, by kernel_rfl, body0, rfl, by decide, by omega, by omega, by rw [list0]; simp, ?_⟩
    intro far' hf
    have : bodyF ⟨#[]⟩ = (0, false) := by kernel_rfl
    rw [this] at hf; injection hf with _ hf; cases hf
  · rcases h with ⟨rfl, rfl⟩ | ⟨rfl, rfl⟩
    · refine ⟨_, ⟨#[49]⟩, 2, hm, by kernel_rfl, body1, rfl, by decide, by omega, by omega, by rw [list1]; simp, ?_⟩
      intro far' hf
      rw [body0] at hf; injection hf with hf _; omega
    · refine ⟨_, ⟨#[48]⟩, 1, hm, by kernel_rfl, body0, rfl, by decide, by omega, by omega, by rw [list0]; simp, ?_⟩
      intro far' hf
      rw [body1] at hf; injection hf with hf _; omega
/-- a Put of a text that fits, where the twin is right and its body has a place, is right (for TwinRow) -/
theorem put_fits {p : Plat} {i : Int} {s : ByteArray} (hp : p.cache = []) (hg : (getF p i).2.2 = 0) (hl : i + 2 < p.sectors.length) (hs : s.size ≤ 128) (most : Int) : (putF p i s most).2.2 = 0 := by
  obtain ⟨m, M, far, hm, hM, hB, hM1, hm1, hf1, hf2, hMe, hff⟩ := marks hg
  obtain ⟨hc, hi0, hin, hi2⟩ := read_pos (get_read hg)
  have w_ok : ∀ (q : Plat) (o : Int) (t : ByteArray), checkP q = true → q.cache = [] → 0 ≤ o → o < q.sectors.length → t.size ≤ 128 → (writeF q o t).2 = 0 := by
    intro q o t h1 h2 h3 h4 h5
    unfold writeF oneF
    rw [if_pos h1, if_pos ((hasB_iff _ _).2 ⟨h3, h4⟩), h2]
    simp [h5]
  have h1 : (writeF p (i + far) s).2 = 0 := w_ok p _ s hc hp (by omega) (by omega) hs
  obtain ⟨s1, s2, s3, s4, _⟩ := sync_ok (write_check h1)
  have h2 : (writeF (syncF (writeF p (i + far) s).1).1 i M).2 = 0 := w_ok _ _ M s4 s2 hi0 (by rw [s3, write_len h1]; exact hin) (by omega)
  rw [putF_do hg, hm]
  dsimp only
  rw [hM, hB]
  dsimp only
  have hN : mostN most ≤ 4 := by unfold mostN; split <;> omega
  generalize mostN most = N at hN ⊢
  have hNc : N = 0 ∨ N = 1 ∨ N = 2 ∨ N = 3 ∨ N = 4 := by omega
  rcases hNc with rfl | rfl | rfl | rfl | rfl
  · rfl
  · rw [doN_ok (doTo_ok1 h1)]
  · rw [doN_ok (doTo_ok2 h1)]
  · rw [doN_ok (doTo_ok3 h1 h2)]
  · rw [doN_ok (doTo_ok4 h1 h2)]
end Go.Proofs.YtpkomloblhbkiaaGreatDoor
/- nonce: Open, the program's and the document's. -/
namespace Go.Proofs.YtpkomloblhbkiaaGreatDoor
open Go.RowKit
structure Src where
  pos : Int
  next : Int
  limit : Int
def noSrc : Src := ⟨0, 0, 0⟩
def srcV (s : Src) : Value := .agg #[.int .i64 s.pos, .int .i64 s.next, .int .i64 s.limit]
def openN (p : Plat) (i : Int) : Src × Int :=
  if (getF p i).2.2 ≠ 0 then (noSrc, (getF p i).2.2)
  else if (getF p i).2.1 = false then (⟨i, 0, 0⟩, 0)
  else match numF (getF p i).1 with
    | some v => (⟨i, (v : Nat), (v : Nat)⟩, 0)
    | none => (noSrc, 150)
theorem get_size (p : Plat) (i : Int) : (getF p i).1.size ≤ 128 := by
  unfold getF
  repeat' split
  all_goals first | exact read_size _ _ | (simp; done) | exact (by decide : (⟨#[]⟩ : ByteArray).size ≤ 128)
/-- what a box of a source tells at the end -/
theorem src_load {W : World} {g : Nat} {a b c : Int} (h : Blk W g 44 #[.int .i64 a, .int .i64 b, .int .i64 c]) : (loadVar 44 ⟨g, 0, none⟩).run Tryz.prog W = .ok (.agg #[.int .i64 a, .int .i64 b, .int .i64 c]) W :=
  run_loadVar_row (P := Tryz.prog) W g 44 44 #[.int .i64 a, .int .i64 b, .int .i64 c] (0, 0) _ h Tryz.underlying44 rfl (by kernel_rfl)
theorem src_set {W : World} {g : Nat} {x y z : Value} (h : Blk W g 44 #[x, y, z]) (a b c : Int) :
    Blk (((W.setCell ⟨g, 0, none⟩ (.int .i64 a)).setCell ⟨g, 1, none⟩ (.int .i64 b)).setCell ⟨g, 2, none⟩ (.int .i64 c)) g 44 #[.int .i64 a, .int .i64 b, .int .i64 c] :=
  ((h.set_ 0 _).set_ 1 _).set_ 2 _
set_option maxRecDepth 100000 in
set_option maxHeartbeats 2000000 in
theorem nopen_any (p : Plat) (i : Int) (A A' : Option Addr) (n m c d : Nat) (w : World) (hP : PlatAt w w.heap.size A n A' m p) :
    Calls Tryz.prog 17 #[.agg #[.slice A n c, .slice A' m d], .int .i64 i] w fun e w' => e = .returned (.tuple #[srcV (openN p i).1, .int .i64 (openN p i).2]) ∧ Below w.heap.size w w' := by
  have HP := hP.pre
  obtain ⟨tx, th, er, hG⟩ : ∃ a b c, getF p i = (a, b, c) := ⟨_, _, _, rfl⟩
  have hsz := get_size p i
  rw [hG] at hsz
  have HG := Lib.hid hG
  obtain ⟨V, er2, hV⟩ : ∃ a b, openN p i = (a, b) := ⟨_, _, rfl⟩
  rw [hV]
  have HV := Lib.hid hV
  unfold openN at hV
  rw [hG] at hV
  simp only at hV hsz
  have HVV := Lib.hid hV
  clear hG hV hP
  go_enter Tryz.func17, Tryz.ntmps17
  go_wp2_with fail
  refine (get_any p i A A' n m c d _ (HP.step (by go_grown))).mono ?_
  rintro e w1 ⟨rfl, hb1⟩
  have hB1 : Below w.heap.size w w1 := Below.trans (by go_grown) (hb1.mono (by simp; omega))
  have hR1 : Blk w1 (w.heap.size + 1) 44 #[.int .i64 0, .int .i64 0, .int .i64 0] := (Blk.new_at (by simp) _ _).below hb1 (by simp)
  have hzr := hR1.lt
  have r0 := hR1.cells 0 _ rfl
  have r1 := hR1.cells 1 _ rfl
  have r2 := hR1.cells 2 _ rfl
  have rf := hR1.frozen
  simp only [List.getElem_toArray, List.getElem_cons_zero, List.getElem_cons_succ] at r0 r1 r2
  rw [HG.out]
  dsimp only
  have HR1 := Lib.hid hR1
  clear hb1 hR1
  by_cases he : er = 0
  · subst he
    have hv2 := HVV.out
    rw [if_neg (by decide)] at hv2
    cases th with
    | false =>
      rw [if_pos rfl] at hv2
      obtain ⟨rfl, rfl⟩ := Prod.mk.inj hv2
      clear hv2 HVV
      go_wp2_with (with_reducible refine end_at ?_)
      have hld := src_load ((src_set HR1.out i 0 0).alloc (.cells #[.int .i64 i, .int .i64 0, .int .i64 0] 104))
      refine end_ret (v := .tuple #[.agg #[.int .i64 i, .int .i64 0, .int .i64 0], .int .i64 0]) (by simp [results, Tryz.results17, asAddr, hld]) rfl ⟨rfl, ?_⟩
      go_grown
    | true =>
      rw [if_neg (by decide)] at hv2
      have HR2 := Lib.hid (HR1.out.alloc (.cells #[.int .i64 i, .int .i64 0, .int .i64 0] 104))
      have HB2 : Hid (Below w.heap.size w (w1.alloc (.cells #[.int .i64 i, .int .i64 0, .int .i64 0] 104))) := Lib.hid (hB1.alloc hB1.size _)
      clear HVV r0 r1 r2 rf
      have hB1s := hB1.size
      go_wp2_with fail
      refine (nread_any w1.heap.size tx i 0 0 _ (Blk.new _ _ _) (by omega)).mono ?_
      rintro e w2 (⟨v, hv, rfl, hw2⟩ | ⟨hv, rfl, hw2⟩)
      · rw [hv] at hv2
        obtain ⟨rfl, rfl⟩ := Prod.mk.inj hv2
        have hS : Blk w2 w1.heap.size 104 #[.int .i64 i, .int .i64 (v : Nat), .int .i64 (v : Nat)] := by
          rw [hw2]
          exact ((Blk.new w1 104 #[.int .i64 i, .int .i64 0, .int .i64 0]).set_ 1 _).set_ 2 _
        have HR3 : Blk w2 (w.heap.size + 1) 44 #[.int .i64 0, .int .i64 0, .int .i64 0] := by
          rw [hw2]
          exact (HR2.out.far (show w.heap.size + 1 ≠ w1.heap.size by omega) _).far (show w.heap.size + 1 ≠ w1.heap.size by omega) _
        have HB3 : Below w.heap.size w w2 := by
          rw [hw2]
          exact (HB2.out.setCell hB1s _).setCell hB1s _
        have s0 := hS.cells 0 _ rfl
        have s1 := hS.cells 1 _ rfl
        have s2 := hS.cells 2 _ rfl
        have r0 := HR3.cells 0 _ rfl
        have r1 := HR3.cells 1 _ rfl
        have r2 := HR3.cells 2 _ rfl
        have rf := HR3.frozen
        simp only [List.getElem_toArray, List.getElem_cons_zero, List.getElem_cons_succ] at s0 s1 s2 r0 r1 r2
        have HR4 := Lib.hid HR3
        clear hw2 hv2 hv HR3 hS
        go_wp2_with (with_reducible refine end_at ?_)
        have hld := src_load (src_set HR4.out i (v : Nat) (v : Nat))
        refine end_ret (v := .tuple #[.agg #[.int .i64 i, .int .i64 (v : Nat), .int .i64 (v : Nat)], .int .i64 0]) (by simp [results, Tryz.results17, asAddr, hld]) rfl ⟨rfl, ?_⟩
        go_grown
      · rw [hv] at hv2
        obtain ⟨rfl, rfl⟩ := Prod.mk.inj hv2
        have HR3 : Blk w2 (w.heap.size + 1) 44 #[.int .i64 0, .int .i64 0, .int .i64 0] := by
          rw [hw2]
          exact HR2.out
        have HB3 : Below w.heap.size w w2 := by
          rw [hw2]
          exact HB2.out
        have r0 := HR3.cells 0 _ rfl
        have r1 := HR3.cells 1 _ rfl
        have r2 := HR3.cells 2 _ rfl
        have rf := HR3.frozen
        simp only [List.getElem_toArray, List.getElem_cons_zero, List.getElem_cons_succ] at r0 r1 r2
        have HR4 := Lib.hid HR3
        clear hw2 hv2 hv HR3
        go_wp2_with (with_reducible refine end_at ?_)
        have hld := src_load (src_set HR4.out 0 0 0)
        refine end_ret (v := .tuple #[.agg #[.int .i64 0, .int .i64 0, .int .i64 0], .int .i64 150]) (by simp [results, Tryz.results17, asAddr, hld]) rfl ⟨rfl, ?_⟩
        go_grown
  · have hv2 := HVV.out
    rw [if_pos he] at hv2
    obtain ⟨rfl, rfl⟩ := Prod.mk.inj hv2
    have te : (er != 0) = true := by simp [he]
    clear hv2 HVV
    go_wp2_with (with_reducible refine end_at ?_)
    have hld := src_load (src_set HR1.out 0 0 0)
    refine end_ret (v := .tuple #[.agg #[.int .i64 0, .int .i64 0, .int .i64 0], .int .i64 er]) (by simp [results, Tryz.results17, asAddr, hld]) rfl ⟨rfl, ?_⟩
    go_grown
end Go.Proofs.YtpkomloblhbkiaaGreatDoor
/- nonce: the document's Open. -/
namespace Go.Proofs.YtpkomloblhbkiaaGreatDoor
open Go.RowKit
end Go.Proofs.YtpkomloblhbkiaaGreatDoor
/- nonce.copied, right, text. -/
namespace Go.Proofs.YtpkomloblhbkiaaGreatDoor
open Go.RowKit
set_option maxRecDepth 100000 in
set_option maxHeartbeats 1000000 in
theorem ncopied_any (p : Plat) (A A' : Option Addr) (n m c d : Nat) (w : World) (hP : PlatAt w w.heap.size A n A' m p) (hn : n ≤ 1000) (hm : m ≤ 1000) :
    Calls Tryz.prog 95 #[.agg #[.slice A n c, .slice A' m d]] w fun e w' => ∃ v, e = .returned v ∧ PlatOut w' w.heap.size v p ∧ Below w.heap.size w w' := by
  obtain ⟨i0, hi0, hz0, hz1, hz2⟩ := info_parts str_info
  obtain ⟨i1, hj0, hy0, hy1, hy2⟩ := info_parts put_info
  have HP := hP.pre
  obtain ⟨L, M⟩ := p
  obtain ⟨h1, h2⟩ := hP
  simp only at h1 h2
  have HL := Lib.hid (And.intro h1.1 h2.1)
  clear h1 h2
  go_enter Tryz.func95, Tryz.ntmps95
  go_wp2_with fail
  have hk := (Blk.new w 42 #[.slice A n c, .slice A' m d]).alloc (.cells #[.slice none 0 0, .slice none 0 0] 42)
  have hr := Blk.new_at (w := w.alloc (.cells #[.slice A n c, .slice A' m d] 42)) (g := w.heap.size + 1) (by simp) 42 #[.slice none 0 0, .slice none 0 0]
  have hB0 : Below w.heap.size w ((w.alloc (.cells #[.slice A n c, .slice A' m d] 42)).alloc (.cells #[.slice none 0 0, .slice none 0 0] 42)) := by go_grown
  have hs0 : ((w.alloc (.cells #[.slice A n c, .slice A' m d] 42)).alloc (.cells #[.slice none 0 0, .slice none 0 0] 42)).heap.size = w.heap.size + 2 := by simp
  have HB0 := Lib.hid hB0
  generalize hg : w.heap.size = g at *
  generalize (w.alloc (.cells #[.slice A n c, .slice A' m d] 42)).alloc (.cells #[.slice none 0 0, .slice none 0 0] 42) = W0 at *
  have hP0 := HP.step (by rw [hg]; exact hB0)
  have HS : Hid (∀ W, Below W0.heap.size W0 W → Reads W W0.heap.size 1 A n (flat encS L)) := fun W hb => (hP0.1.below hb).reads encS_len
  have HC : Hid (∀ W, Below W0.heap.size W0 W → Reads W W0.heap.size 2 A' m (flat encP M)) := fun W hb => (hP0.2.below hb).reads encP_len
  have HG := Lib.hid hg
  clear hB0 hP0 HP hg
  obtain ⟨B, hBe⟩ : ∃ B, B = W0.heap.size := ⟨_, rfl⟩
  rw [← hBe] at HS HC
  have HBE := Lib.hid hBe
  have q0 := hk.cells 0 _ rfl
  have q1 := hk.cells 1 _ rfl
  have r0 := hr.cells 0 _ rfl
  have r1 := hr.cells 1 _ rfl
  have rf := hr.frozen
  simp only [List.getElem_toArray, List.getElem_cons_zero, List.getElem_cons_succ] at q0 q1 r0 r1
  subst hBe
  go_region_law (first
    | (refine step_append_any _ rfl (.const (.slice none 0 0)) (.tmp 4) _ rfl W0.heap.size _ i0 _ 1 16 Tryz.underlying30 hi0 hz0 hz1 hz2 rfl (by omega) (.slice none 0 0) 0 [] rfl (World.ownsRow_nil _ _ _ _) W0.heap.size A n c (flat encS L) (by simp [Act.eval]) (HS.out _ (by first | exact hB2.drew | exact hB2 | exact (Below.refl _ _).drew | exact Below.refl _ _)) (one_flatS L) (by simp only [maxLen]; omega) (by omega) (by first | exact hB2.size | exact Nat.le_refl _) ?_; intro v1 w1 hown1 hg1 hat1; obtain ⟨A1, c1, rfl, _, _, _⟩ := own_form hown1; have hk1 : Blk w1 g 42 #[.slice A n c, .slice A' m d] := Blk.grown (w := _) (by first | exact hk2 | exact hk) hg1 (by simp [Value.ownBlock]); have hr1 : Blk w1 (g + 1) 42 #[.slice none 0 0, .slice none 0 0] := Blk.grown (w := _) (by first | exact hr2 | exact hr) hg1 (by simp [Value.ownBlock]); have hB1 : Below W0.heap.size W0 w1 := Below.grown (by first | exact hB2.drew | exact hB2 | exact (Below.refl _ _).drew | exact Below.refl _ _) hg1 (by first | exact hB2.size | exact Nat.le_refl _) (by simp [Value.ownBlock]); have qa1 := hk1.cells 0 _ rfl; have qb1 := hk1.cells 1 _ rfl; have ra1 := hr1.cells 0 _ rfl; have rb1 := hr1.cells 1 _ rfl; have rf1 := hr1.frozen; simp only [List.getElem_toArray, List.getElem_cons_zero, List.getElem_cons_succ] at qa1 qb1 ra1 rb1)
    | (refine step_append_any _ rfl (.const (.slice none 0 0)) (.tmp 7) _ rfl W0.heap.size _ i1 _ 2 24 Tryz.underlying40 hj0 hy0 hy1 hy2 rfl (by omega) (.slice none 0 0) 0 [] rfl (World.ownsRow_nil _ _ _ _) W0.heap.size A' m d (flat encP M) (by simp [Act.eval]) (HC.out _ (by first | exact hB1.drew | exact hB1 | exact (Below.refl _ _).drew | exact Below.refl _ _)) (one_flatP M) (by simp only [maxLen]; omega) (by omega) (by first | exact hB1.size | exact Nat.le_refl _) ?_; intro v2 w2 hown2 hg2 hat2; obtain ⟨A2, c2, rfl, _, _, _⟩ := own_form hown2; have hk2 : Blk w2 g 42 #[.slice A n c, .slice A' m d] := Blk.grown (w := _) (by first | exact hk1 | exact hk) hg2 (by simp [Value.ownBlock]); have hr2 : Blk w2 (g + 1) 42 #[.slice none 0 0, .slice none 0 0] := Blk.grown (w := _) (by first | exact hr1 | exact hr) hg2 (by simp [Value.ownBlock]); have hB2 : Below W0.heap.size W0 w2 := Below.grown (by first | exact hB1.drew | exact hB1 | exact (Below.refl _ _).drew | exact Below.refl _ _) hg2 (by first | exact hB1.size | exact Nat.le_refl _) (by simp [Value.ownBlock]); have qa2 := hk2.cells 0 _ rfl; have qb2 := hk2.cells 1 _ rfl; have ra2 := hr2.cells 0 _ rfl; have rb2 := hr2.cells 1 _ rfl; have rf2 := hr2.frozen; simp only [List.getElem_toArray, List.getElem_cons_zero, List.getElem_cons_succ] at qa2 qb2 ra2 rb2))
  all_goals go_wp2_with (with_reducible refine end_at ?_)
  all_goals
    obtain ⟨rfl, rfl⟩ := HL.out
    have h1 := hown1
    have h2 := hown2
    simp only [Nat.zero_add, List.nil_append] at h1 h2
    first | (have h1 := own_below h1 (below_of_grown hg2) (Nat.le_refl _)) | (have h2 := own_below h2 (below_of_grown hg1) (Nat.le_refl _))
    first | (have n1 := own_blk_ne h1 hr2 (by decide); have n2 := own_blk_ne h2 hr2 (by decide)) | (have n1 := own_blk_ne h1 hr1 (by decide); have n2 := own_blk_ne h2 hr1 (by decide))
    have hg := HG.out
    refine end_ret (v := .agg #[.slice A1 L.length c1, .slice A2 M.length c2]) (by first | (simp [results, Tryz.results95, go_sem, ra2, rb2]; done) | (simp [results, Tryz.results95, go_sem, ra1, rb1]; done)) rfl ⟨_, rfl, ⟨A1, c1, A2, c2, rfl, own_base (base := W0.heap.size) ?_ (by omega), own_base (base := W0.heap.size) ?_ (by omega)⟩, ?_⟩
    · repeat' (first | (with_reducible exact h1) | (with_reducible refine World.ownsRow.drew ?_) | (with_reducible refine own_far ?_ n1 _ _))
    · repeat' (first | (with_reducible exact h2) | (with_reducible refine World.ownsRow.drew ?_) | (with_reducible refine own_far ?_ n2 _ _))
    · rw [hg]
      have hc2 := HB0.out.trans (hB2.mono (by omega))
      have hc1 := HB0.out.trans (hB1.mono (by omega))
      first | exact ((hc2.setCell (by simp) _).setCell (by simp) _) | exact ((hc1.setCell (by simp) _).setCell (by simp) _)
def rightB (b c : Int) : Bool := decide (0 ≤ b) && decide (b ≤ c) && decide (c ≤ 1000000000)
set_option maxRecDepth 100000 in
set_option maxHeartbeats 1000000 in
theorem right_any (g : Nat) (a b c : Int) (w : World) (hB : Blk w g 104 #[.int .i64 a, .int .i64 b, .int .i64 c]) :
    Calls Tryz.prog 94 #[.pointer (some ⟨g, 0, none⟩)] w fun e w' => e = .returned (.bool (rightB b c)) ∧ Below w.heap.size w w' := by
  have s1 := hB.cells 1 _ rfl
  have s2 := hB.cells 2 _ rfl
  simp only [List.getElem_toArray, List.getElem_cons_zero, List.getElem_cons_succ] at s1 s2
  have hlt := hB.lt
  obtain ⟨R, hR⟩ : ∃ R, rightB b c = R := ⟨_, rfl⟩
  rw [hR]
  have HR := Lib.hid hR
  clear hB hR
  by_cases h1 : 0 ≤ b
  · have t1 : decide (0 ≤ b) = true := by simp [h1]
    by_cases h2 : b ≤ c
    · have t2 : decide (b ≤ c) = true := by simp [h2]
      by_cases h3 : c ≤ 1000000000
      · have t3 : decide (c ≤ 1000000000) = true := by simp [h3]
        have HV : Hid (R = true) := Lib.hid (by rw [← HR.out, rightB, t1, t2, t3]; rfl)
        clear HR
        go_enter Tryz.func94, Tryz.ntmps94
        go_wp2_with fail
        go_big_quiet (fail)
        all_goals go_wp2_with fail
        all_goals go_ret
        all_goals exact ⟨by rw [HV.out]; rfl, below_drewN (Below.refl _ _) _⟩
      · have t3 : decide (c ≤ 1000000000) = false := by simp; omega
        have HV : Hid (R = false) := Lib.hid (by rw [← HR.out, rightB, t1, t2, t3]; rfl)
        clear HR
        go_enter Tryz.func94, Tryz.ntmps94
        go_wp2_with fail
        go_big_quiet (fail)
        all_goals go_wp2_with fail
        all_goals go_ret
        all_goals exact ⟨by rw [HV.out]; rfl, below_drewN (Below.refl _ _) _⟩
    · have t2 : decide (b ≤ c) = false := by simp; omega
      have HV : Hid (R = false) := Lib.hid (by rw [← HR.out, rightB, t1, t2]; rfl)
      clear HR
      go_enter Tryz.func94, Tryz.ntmps94
      go_wp2_with fail
      go_big_quiet (fail)
      all_goals go_wp2_with fail
      all_goals go_ret
      all_goals exact ⟨by rw [HV.out]; rfl, below_drewN (Below.refl _ _) _⟩
  · have t1 : decide (0 ≤ b) = false := by simp; omega
    have HV : Hid (R = false) := Lib.hid (by rw [← HR.out, rightB, t1]; rfl)
    clear HR
    go_enter Tryz.func94, Tryz.ntmps94
    go_wp2_with fail
    go_big_quiet (fail)
    all_goals go_wp2_with fail
    all_goals go_ret
    all_goals exact ⟨by rw [HV.out]; rfl, below_drewN (Below.refl _ _) _⟩
set_option maxRecDepth 100000 in
theorem ntext_any (g : Nat) (a b : Int) (c : Nat) (w : World) (hB : Blk w g 104 #[.int .i64 a, .int .i64 b, .int .i64 c]) (hc : c ≤ 1000000000) (hG : Pows w) :
    Calls Tryz.prog 96 #[.pointer (some ⟨g, 0, none⟩)] w fun e w' => e = .returned (.string (digB (c + 16))) ∧ Below w.heap.size w w' := by
  have s2 := hB.cells 2 _ rfl
  simp only [List.getElem_toArray, List.getElem_cons_zero, List.getElem_cons_succ] at s2
  obtain ⟨x, hx⟩ : ∃ x, c + 16 = x := ⟨_, rfl⟩
  rw [hx]
  have hxi : (c : Int) + 16 = (x : Int) := by omega
  have hx9 : x ≤ 2000000000 := by omega
  have HX := Lib.hid hx
  clear hx hB
  go_enter Tryz.func96, Tryz.ntmps96
  go_wp2_with fail
  refine (itoa_any x w (by omega) hG).mono ?_
  rintro e w1 ⟨rfl, hb1⟩
  go_wp2_with fail
  go_ret
  exact ⟨rfl, hb1⟩
end Go.Proofs.YtpkomloblhbkiaaGreatDoor
namespace Go.Proofs.YtpkomloblhbkiaaGreatDoor
open Go.RowKit
def nextN (p : Plat) (s : Src) (deeds : Int) : ByteArray × Src × Plat × Int :=
  if rightB s.next s.limit = false then (⟨#[]⟩, noSrc, noPlat, 1)
  else if s.next < s.limit then (nonB s.next.toNat, ⟨s.pos, s.next + 1, s.limit⟩, p, 0)
  else if 1000000000 < s.limit + 16 then (⟨#[]⟩, noSrc, noPlat, 150)
  else if (putF p s.pos (digB (s.limit.toNat + 16)) deeds).2.2 ≠ 0 then (⟨#[]⟩, noSrc, noPlat, (putF p s.pos (digB (s.limit.toNat + 16)) deeds).2.2)
  else if (putF p s.pos (digB (s.limit.toNat + 16)) deeds).2.1 = false then (⟨#[]⟩, s, (putF p s.pos (digB (s.limit.toNat + 16)) deeds).1, 0)
  else (nonB s.next.toNat, ⟨s.pos, s.next + 1, s.limit + 16⟩, (putF p s.pos (digB (s.limit.toNat + 16)) deeds).1, 0)
/-- Next's boxes -/
structure NextAt (W : World) (g : Nat) (a b : Value) (s ws : Src) : Prop where
  t3 : Blk W g 42 #[a, b]
  t4 : Blk W (g + 1) 44 #[.int .i64 s.pos, .int .i64 s.next, .int .i64 s.limit]
  t7 : Blk W (g + 1 + 1) 44 #[.int .i64 0, .int .i64 0, .int .i64 0]
  t8 : Blk W (g + 1 + 1 + 1) 42 #[.slice none 0 0, .slice none 0 0]
  t10 : Blk W (g + 1 + 1 + 1 + 1) 104 #[.int .i64 ws.pos, .int .i64 ws.next, .int .i64 ws.limit]
theorem NextAt.lt {W : World} {g : Nat} {a b : Value} {s ws : Src} (h : NextAt W g a b s ws) : g + 1 + 1 + 1 + 1 < W.heap.size := h.t10.lt
theorem NextAt.below {W W' : World} {g : Nat} {a b : Value} {s ws : Src} (h : NextAt W g a b s ws) (hb : Below W.heap.size W W') : NextAt W' g a b s ws :=
  ⟨h.t3.below hb h.t3.lt, h.t4.below hb h.t4.lt, h.t7.below hb h.t7.lt, h.t8.below hb h.t8.lt, h.t10.below hb h.t10.lt⟩
theorem plat_load {W : World} {g : Nat} {a b : Value} (h : Blk W g 42 #[a, b]) : (loadVar 42 ⟨g, 0, none⟩).run Tryz.prog W = .ok (.agg #[a, b]) W :=
  run_loadVar_row (P := Tryz.prog) W g 42 42 #[a, b] (0, 0) _ h Tryz.underlying42 rfl (by kernel_rfl)
def NextOut (B : Nat) (r : ByteArray × Src × Plat × Int) (w : World) (e : Ending) (w' : World) : Prop :=
  ∃ v, e = .returned (.tuple #[.string r.1, srcV r.2.1, v, .int .i64 r.2.2.2]) ∧ PlatOut w' B v r.2.2.1 ∧ Below B w w'
def startW (w : World) (a b : Value) (s : Src) : World :=
  ((((w.alloc (.cells #[a, b] 42)).alloc (.cells #[.int .i64 s.pos, .int .i64 s.next, .int .i64 s.limit] 44)).alloc (.cells #[.int .i64 0, .int .i64 0, .int .i64 0] 44)).alloc (.cells #[.slice none 0 0, .slice none 0 0] 42)).alloc (.cells #[.int .i64 s.pos, .int .i64 s.next, .int .i64 s.limit] 104)
theorem next_start (w : World) (a b : Value) (s : Src) : NextAt (startW w a b s) w.heap.size a b s s := by
  unfold startW
  refine ⟨?_, ?_, ?_, ?_, ?_⟩
  · exact ((((Blk.new w _ _).alloc _).alloc _).alloc _).alloc _
  · exact (((Blk.new_at (by simp) _ _).alloc _).alloc _).alloc _
  · exact ((Blk.new_at (by simp) _ _).alloc _).alloc _
  · exact (Blk.new_at (by simp) _ _).alloc _
  · exact Blk.new_at (by simp) _ _
theorem start_below (w : World) (a b : Value) (s : Src) : Below w.heap.size w (startW w a b s) := by unfold startW; go_grown
/-- the result's boxes, set -/
theorem plat_set {W : World} {g : Nat} {x y : Value} (h : Blk W g 42 #[x, y]) (a b : Value) :
    Blk ((W.setCell ⟨g, 0, none⟩ a).setCell ⟨g, 1, none⟩ b) g 42 #[a, b] := (h.set_ 0 _).set_ 1 _
set_option maxRecDepth 100000 in
set_option maxHeartbeats 2000000 in
theorem next_bad (p : Plat) (s : Src) (deeds : Int) (A A' : Option Addr) (n m c d : Nat) (w : World) (h : rightB s.next s.limit = false) :
    Calls Tryz.prog 54 #[.agg #[.slice A n c, .slice A' m d], .agg #[.int .i64 s.pos, .int .i64 s.next, .int .i64 s.limit], .int .i64 deeds] w fun e w' => NextOut w.heap.size (⟨#[]⟩, noSrc, noPlat, 1) w e w' := by
  have HH := Lib.hid h
  clear h
  go_enter Tryz.func54, Tryz.ntmps54
  go_wp2_with fail
  have hN := next_start w (.slice A n c) (.slice A' m d) s
  have hB := start_below w (.slice A n c) (.slice A' m d) s
  unfold startW at hN hB
  refine (right_any (w.heap.size + 1 + 1 + 1 + 1) s.pos s.next s.limit _ hN.t10).mono ?_
  rintro e w1 ⟨rfl, hb1⟩
  have hN1 := hN.below hb1
  have hB1 := hB.trans (hb1.mono hB.size)
  rw [HH.out]
  clear hN hB hb1
  have r0 := hN1.t7.cells 0 _ rfl
  have r1 := hN1.t7.cells 1 _ rfl
  have r2 := hN1.t7.cells 2 _ rfl
  have rf := hN1.t7.frozen
  have q0 := hN1.t8.cells 0 _ rfl
  have q1 := hN1.t8.cells 1 _ rfl
  have qf := hN1.t8.frozen
  have hlt := hN1.lt
  simp only [List.getElem_toArray, List.getElem_cons_zero, List.getElem_cons_succ] at r0 r1 r2 q0 q1
  have HN1 := Lib.hid hN1
  clear hN1
  go_wp2_with (with_reducible refine end_at ?_)
  have e7 := src_set HN1.out.t7 0 0 0
  have e8 := plat_set ((((HN1.out.t8.far (p := ⟨w.heap.size + 1 + 1, 0, none⟩) (by simp) (.int .i64 0)).far (p := ⟨w.heap.size + 1 + 1, 1, none⟩) (by simp) (.int .i64 0)).far (p := ⟨w.heap.size + 1 + 1, 2, none⟩) (by simp) (.int .i64 0))) (.slice none 0 0) (.slice none 0 0)
  have e7' := (e7.far (p := ⟨w.heap.size + 1 + 1 + 1, 0, none⟩) (by simp) (.slice none 0 0)).far (p := ⟨w.heap.size + 1 + 1 + 1, 1, none⟩) (by simp) (.slice none 0 0)
  have l7 := src_load e7'
  have l8 := plat_load e8
  refine end_ret (v := .tuple #[.string ⟨#[]⟩, .agg #[.int .i64 0, .int .i64 0, .int .i64 0], .agg #[.slice none 0 0, .slice none 0 0], .int .i64 1]) (by simp [results, Tryz.results54, asAddr, l7, l8]) rfl ⟨_, rfl, PlatOut.none_ _ _, ?_⟩
  go_grown
theorem right_iff (b c : Int) : rightB b c = true ↔ 0 ≤ b ∧ b ≤ c ∧ c ≤ 1000000000 := by simp [rightB, and_assoc]
theorem nonF_in {n : Int} (h0 : 0 ≤ n) (h1 : n ≤ 1000000000) : nonF n = (nonB n.toNat, 0) := by unfold nonF; rw [if_pos ⟨h0, h1⟩]
theorem NextAt.set3 {W : World} {g : Nat} {a b : Value} {s ws : Src} (h : NextAt W g a b s ws) (a' b' : Value) : NextAt ((W.setCell ⟨g, 0, none⟩ a').setCell ⟨g, 1, none⟩ b') g a' b' s ws :=
  ⟨plat_set h.t3 a' b', (h.t4.far (by first | (simp; done) | (simp; omega)) _).far (by first | (simp; done) | (simp; omega)) _, (h.t7.far (by first | (simp; done) | (simp; omega)) _).far (by first | (simp; done) | (simp; omega)) _, (h.t8.far (by first | (simp; done) | (simp; omega)) _).far (by first | (simp; done) | (simp; omega)) _, (h.t10.far (by first | (simp; done) | (simp; omega)) _).far (by first | (simp; done) | (simp; omega)) _⟩
theorem NextAt.set10 {W : World} {g : Nat} {a b : Value} {s ws : Src} (h : NextAt W g a b s ws) (x : Int) : NextAt (W.setCell ⟨g + 1 + 1 + 1 + 1, 1, none⟩ (.int .i64 x)) g a b s ⟨ws.pos, x, ws.limit⟩ :=
  ⟨h.t3.far (by first | (simp; done) | (simp; omega)) _, h.t4.far (by first | (simp; done) | (simp; omega)) _, h.t7.far (by first | (simp; done) | (simp; omega)) _, h.t8.far (by first | (simp; done) | (simp; omega)) _, h.t10.set_ 1 _⟩
/-- the result's boxes, set, and what lies there -/
theorem next_end {W : World} {g B sz1 sz2 n1 n2 : Nat} {e1 e2 : TypeId} {a b x y : Value} {xs ys : List Value} {s ws : Src} (h : NextAt W g a b s ws) (h1 : W.ownsRow B e1 sz1 x n1 xs) (h2 : W.ownsRow B e2 sz2 y n2 ys) (hB : g + 1 + 1 + 1 + 1 < B) (u0 u1 u2 : Int) (p0 p1 : Value) :
    let W' := ((((W.setCell ⟨g + 1 + 1, 0, none⟩ (.int .i64 u0)).setCell ⟨g + 1 + 1, 1, none⟩ (.int .i64 u1)).setCell ⟨g + 1 + 1, 2, none⟩ (.int .i64 u2)).setCell ⟨g + 1 + 1 + 1, 0, none⟩ p0).setCell ⟨g + 1 + 1 + 1, 1, none⟩ p1
    Blk W' (g + 1 + 1) 44 #[.int .i64 u0, .int .i64 u1, .int .i64 u2] ∧ Blk W' (g + 1 + 1 + 1) 42 #[p0, p1] ∧ W'.ownsRow B e1 sz1 x n1 xs ∧ W'.ownsRow B e2 sz2 y n2 ys := by
  intro W'
  refine ⟨((src_set h.t7 u0 u1 u2).far (by simp) _).far (by simp) _, plat_set (((h.t8.far (by simp) _).far (by simp) _).far (by simp) _) p0 p1, ?_, ?_⟩
  · exact own_far (own_far (own_far (own_far (own_far h1 (fun e => absurd (World.ownsRow.lt h1 _ e).1 (by omega)) _ _) (fun e => absurd (World.ownsRow.lt h1 _ e).1 (by omega)) _ _) (fun e => absurd (World.ownsRow.lt h1 _ e).1 (by omega)) _ _) (fun e => absurd (World.ownsRow.lt h1 _ e).1 (by omega)) _ _) (fun e => absurd (World.ownsRow.lt h1 _ e).1 (by omega)) _ _
  · exact own_far (own_far (own_far (own_far (own_far h2 (fun e => absurd (World.ownsRow.lt h2 _ e).1 (by omega)) _ _) (fun e => absurd (World.ownsRow.lt h2 _ e).1 (by omega)) _ _) (fun e => absurd (World.ownsRow.lt h2 _ e).1 (by omega)) _ _) (fun e => absurd (World.ownsRow.lt h2 _ e).1 (by omega)) _ _) (fun e => absurd (World.ownsRow.lt h2 _ e).1 (by omega)) _ _
theorem own_set {w : World} {B g sz n : Nat} {e : TypeId} {v : Value} {xs : List Value} (h : w.ownsRow B e sz v n xs) (hg : g < B) (o : Nat) (u : Value) : (w.setCell ⟨g, o, none⟩ u).ownsRow B e sz v n xs :=
  own_far h (fun e => absurd (World.ownsRow.lt h g e).1 (by omega)) o u
set_option maxRecDepth 100000 in
set_option maxHeartbeats 4000000 in
theorem next_in (p : Plat) (s : Src) (deeds : Int) (A A' : Option Addr) (n m c d : Nat) (w : World) (hP : PlatAt w w.heap.size A n A' m p) (hn : n ≤ 1000) (hm : m ≤ 1000) (h : rightB s.next s.limit = true) (hlt : s.next < s.limit) :
    Calls Tryz.prog 54 #[.agg #[.slice A n c, .slice A' m d], .agg #[.int .i64 s.pos, .int .i64 s.next, .int .i64 s.limit], .int .i64 deeds] w fun e w' => NextOut w.heap.size (nonB s.next.toNat, ⟨s.pos, s.next + 1, s.limit⟩, p, 0) w e w' := by
  have HP := hP.pre
  obtain ⟨k0, k1, k2⟩ := (right_iff _ _).1 h
  have HH := Lib.hid h
  have HF := Lib.hid (nonF_in (n := s.next) k0 (by omega))
  have t1 : decide (s.next < s.limit) = true := by simp [hlt]
  clear h hP
  go_enter Tryz.func54, Tryz.ntmps54
  go_wp2_with fail
  have hN := next_start w (.slice A n c) (.slice A' m d) s
  have hB := start_below w (.slice A n c) (.slice A' m d) s
  unfold startW at hN hB
  refine (right_any (w.heap.size + 1 + 1 + 1 + 1) s.pos s.next s.limit _ hN.t10).mono ?_
  rintro e w1 ⟨rfl, hb1⟩
  have hN1 := hN.below hb1
  have hB1 := hB.trans (hb1.mono hB.size)
  rw [HH.out]
  clear hN hB hb1
  have s1 := hN1.t10.cells 1 _ rfl
  have s2 := hN1.t10.cells 2 _ rfl
  have p0 := hN1.t3.cells 0 _ rfl
  have p1 := hN1.t3.cells 1 _ rfl
  have hlt1 := hN1.lt
  simp only [List.getElem_toArray, List.getElem_cons_zero, List.getElem_cons_succ] at s1 s2 p0 p1
  have HN1 := Lib.hid hN1
  have HB1 := Lib.hid hB1
  clear hN1
  go_wp2_with fail
  refine (ncopied_any p A A' n m c d w1 (HP.step hB1) hn hm).mono ?_
  rintro e w2 ⟨v, rfl, hO, hb2⟩
  obtain ⟨Ac, cc, Ac', cc', rfl, ho1, ho2⟩ := hO
  have hN2 := HN1.out.below hb2
  have hB2 := hB1.trans (hb2.mono hB1.size)
  have HO := Lib.hid (And.intro ho1 ho2)
  have p0 := hN2.t3.cells 0 _ rfl
  have p1 := hN2.t3.cells 1 _ rfl
  have pf := hN2.t3.frozen
  have hlt2 := hN2.lt
  have hz2 := hb2.size
  simp only [List.getElem_toArray, List.getElem_cons_zero, List.getElem_cons_succ] at p0 p1
  have HN2 := Lib.hid hN2
  have HB2 := Lib.hid hB2
  clear hN2 hb2 ho1 ho2 s1 s2 HN1 hB2 hB1
  go_upto_region 15 with (fail)
  have HN3 := Lib.hid (HN2.out.set3 (.slice Ac p.sectors.length cc) (.slice Ac' p.cache.length cc'))
  have HO3 := Lib.hid (And.intro (own_set (own_set HO.out.1 (g := w.heap.size) (by omega) 0 (.slice Ac p.sectors.length cc)) (g := w.heap.size) (by omega) 1 (.slice Ac' p.cache.length cc')) (own_set (own_set HO.out.2 (g := w.heap.size) (by omega) 0 (.slice Ac p.sectors.length cc)) (g := w.heap.size) (by omega) 1 (.slice Ac' p.cache.length cc')))
  have HB3 := Lib.hid ((HB2.out.setCell (p := ⟨w.heap.size, 0, none⟩) (Nat.le_refl _) (.slice Ac p.sectors.length cc)).setCell (p := ⟨w.heap.size, 1, none⟩) (Nat.le_refl _) (.slice Ac' p.cache.length cc'))
  generalize (w2.setCell ⟨w.heap.size, 0, none⟩ (.slice Ac p.sectors.length cc)).setCell ⟨w.heap.size, 1, none⟩ (.slice Ac' p.cache.length cc') = w3 at HN3 HO3 HB3 ⊢
  clear HN2 HO HB2 p0 p1 pf
  have s1 := HN3.out.t10.cells 1 _ rfl
  have hlt3 := HN3.out.lt
  simp only [List.getElem_toArray, List.getElem_cons_zero, List.getElem_cons_succ] at s1
  go_wp2_with fail
  refine (bytes_any s.next w3).mono ?_
  rintro e w4 ⟨rfl, hb4⟩
  rw [HF.out]
  dsimp only
  have hN4 := HN3.out.below hb4
  have HB4 := Lib.hid (HB3.out.trans (hb4.mono HB3.out.size))
  have HO4 := Lib.hid (And.intro (own_below HO3.out.1 hb4 (Nat.le_refl _)) (own_below HO3.out.2 hb4 (Nat.le_refl _)))
  have s1 := hN4.t10.cells 1 _ rfl
  have sf := hN4.t10.frozen
  have hlt4 := hN4.lt
  have hz4 := hb4.size
  simp only [List.getElem_toArray, List.getElem_cons_zero, List.getElem_cons_succ] at s1
  have HN4 := Lib.hid hN4
  clear hN4 hb4 HN3 HB3 HO3
  go_upto_region 19 with (fail)
  have hN5 := HN4.out.set10 (s.next + 1)
  have HO5 := Lib.hid (And.intro (own_set HO4.out.1 (g := w.heap.size + 1 + 1 + 1 + 1) (by omega) 1 (.int .i64 (s.next + 1))) (own_set HO4.out.2 (g := w.heap.size + 1 + 1 + 1 + 1) (by omega) 1 (.int .i64 (s.next + 1))))
  have HB5 := Lib.hid (HB4.out.setCell (p := ⟨w.heap.size + 1 + 1 + 1 + 1, 1, none⟩) (by simp; omega) (.int .i64 (s.next + 1)))
  generalize w4.setCell ⟨w.heap.size + 1 + 1 + 1 + 1, 1, none⟩ (.int .i64 (s.next + 1)) = w5 at hN5 HO5 HB5 ⊢
  have c0 := hN5.t10.cells 0 _ rfl
  have c1 := hN5.t10.cells 1 _ rfl
  have c2 := hN5.t10.cells 2 _ rfl
  have p0 := hN5.t3.cells 0 _ rfl
  have p1 := hN5.t3.cells 1 _ rfl
  have r0 := hN5.t7.cells 0 _ rfl
  have r1 := hN5.t7.cells 1 _ rfl
  have r2 := hN5.t7.cells 2 _ rfl
  have rf0 := hN5.t7.frozen 0
  have rf1 := hN5.t7.frozen 1
  have rf2 := hN5.t7.frozen 2
  have q0 := hN5.t8.cells 0 _ rfl
  have q1 := hN5.t8.cells 1 _ rfl
  have qf0 := hN5.t8.frozen 0
  have qf1 := hN5.t8.frozen 1
  have hlt5 := hN5.lt
  simp only [List.getElem_toArray, List.getElem_cons_zero, List.getElem_cons_succ] at c0 c1 c2 p0 p1 r0 r1 r2 q0 q1
  have HN5 := Lib.hid hN5
  clear hN5 HN4 HO4 HB4 s1 sf
  go_region
  go_wp2_with (with_reducible refine end_at ?_)
  obtain ⟨e7, e8, o1, o2⟩ := next_end HN5.out HO5.out.1 HO5.out.2 (by omega) s.pos (s.next + 1) s.limit (.slice Ac p.sectors.length cc) (.slice Ac' p.cache.length cc')
  have l7 := src_load e7.drew
  have l8 := plat_load e8.drew
  have hbE : Below w.heap.size w (((((w5.setCell ⟨w.heap.size + 1 + 1, 0, none⟩ (.int .i64 s.pos)).setCell ⟨w.heap.size + 1 + 1, 1, none⟩ (.int .i64 (s.next + 1))).setCell ⟨w.heap.size + 1 + 1, 2, none⟩ (.int .i64 s.limit)).setCell ⟨w.heap.size + 1 + 1 + 1, 0, none⟩ (.slice Ac p.sectors.length cc)).setCell ⟨w.heap.size + 1 + 1 + 1, 1, none⟩ (.slice Ac' p.cache.length cc')) := ((((HB5.out.setCell (by simp; omega) _).setCell (by simp; omega) _).setCell (by simp; omega) _).setCell (by simp; omega) _).setCell (by simp; omega) _
  refine end_ret (v := .tuple #[.string (nonB s.next.toNat), .agg #[.int .i64 s.pos, .int .i64 (s.next + 1), .int .i64 s.limit], .agg #[.slice Ac p.sectors.length cc, .slice Ac' p.cache.length cc'], .int .i64 0]) (by simp [results, Tryz.results54, asAddr, l7, l8]) rfl ⟨_, rfl, ⟨Ac, cc, Ac', cc', rfl, (own_base o1 (by omega)).drew, (own_base o2 (by omega)).drew⟩, hbE.drew⟩
end Go.Proofs.YtpkomloblhbkiaaGreatDoor
