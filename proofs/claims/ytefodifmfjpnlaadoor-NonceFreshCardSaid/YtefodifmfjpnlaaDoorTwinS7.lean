/- chapter 14's reference: Put. -/
import Derived.Test.YtefodifmfjpnlaaDoorTwinS4
import Derived.Test.YtefodifmfjpnlaaDoorTwinF
import Derived.Deep.CutRange
set_option linter.unusedVariables false
namespace Go.Proofs.YtefodifmfjpnlaaDoor
open Go.RowKit

theorem rows_pre2 {w : World} {B : Nat} {p : Plat} {A A' : Option Addr} {c c' : Nat} (h1 : w.ownsRow B 9 1 (.slice A p.sectors.length c) p.sectors.length (flat encS p.sectors)) (h2 : w.ownsRow B 52 2 (.slice A' p.cache.length c') p.cache.length (flat encP p.cache)) : PlatPre w A p.sectors.length A' p.cache.length p :=
  PlatAt.pre ⟨SlR.of_own encS_len h1 rfl, SlR.of_own encP_len h2 rfl⟩
theorem mostN_in {N : Nat} (h : N ≤ 4) : mostN (N : Int) = N := by unfold mostN; rw [if_pos (by omega)]; simp
theorem mostN_neg {m : Int} (h : m < 0) : mostN m = 4 := by unfold mostN; rw [if_neg (by omega)]
theorem mostN_big {m : Int} (h : 4 < m) : mostN m = 4 := by unfold mostN; rw [if_neg (by omega)]
theorem check_len {p : Plat} (hc : checkP p = true) : p.sectors.length ≤ 1000 ∧ p.cache.length ≤ 1000 := by
  obtain ⟨_, a, b, _⟩ := (checkP_iff p).1 hc
  omega
theorem doTo_len {p : Plat} {i1 : Int} {s1 : ByteArray} {i2 : Int} {s2 : ByteArray} (hc : checkP p = true) : ∀ (k : Nat) (q : Plat), k ≤ 4 → doTo p i1 s1 i2 s2 k = (q, 0) → q.sectors.length ≤ 1000 ∧ q.cache.length ≤ 1000 := by
  intro k q hk h
  have hd : (doTo p i1 s1 i2 s2 k).2 = 0 := by rw [h]
  have hkc : k = 0 ∨ k = 1 ∨ k = 2 ∨ k = 3 ∨ k = 4 := by omega
  rcases hkc with rfl | rfl | rfl | rfl | rfl
  · injection h with h _; subst h; exact check_len hc
  · have h1 := doTo_w1 (by omega) hd
    rw [doTo_ok1 h1] at h; injection h with h _; subst h; exact check_len (write_check h1)
  · have h1 := doTo_w1 (by omega) hd
    rw [doTo_ok2 h1] at h; injection h with h _; subst h; exact check_len (sync_ok (write_check h1)).2.2.2.1
  · have h1 := doTo_w1 (by omega) hd
    have h2 := doTo_w2 (by omega) hd
    rw [doTo_ok3 h1 h2] at h; injection h with h _; subst h; exact check_len (write_check h2)
  · have h1 := doTo_w1 (by omega) hd
    have h2 := doTo_w2 (by omega) hd
    rw [doTo_ok4 h1 h2] at h; injection h with h _; subst h; exact check_len (sync_ok (write_check h2)).2.2.2.1
set_option maxHeartbeats 1000000 in
set_option maxRecDepth 100000 in
theorem refput_bad (p : Plat) (i : Int) (s : ByteArray) (most : Int) (A A' : Option Addr) (n m c d : Nat) (w : World) (HP : PlatPre w A n A' m p) (hn9 : n ≤ 1000) (hm9 : m ≤ 1000) (hg : (getF p i).2.2 ≠ 0) :
    Calls Tryd.prog 29 #[.agg #[.slice A n c, .slice A' m d], .int .i64 i, .string s, .int .i64 most] w (OutDo w.heap.size w (putF p i s most)) := by
  have HF : Hid (putF p i s most = (noPlat, false, (getF p i).2.2)) := by unfold Hid putF; rw [if_neg hg]
  generalize hr : getF p i = r at *
  have HR := Lib.hid hr
  obtain ⟨t, ok, er⟩ := r
  dsimp only at hg HF
  have t1 : (er != 0) = true := by simpa using hg
  clear hr hg
  go_enter Tryd.func29, Tryd.ntmps29
  go_wp2_with fail
  refine (refget_any p i A A' n m c d _ (HP.step (by go_grown)) hn9 hm9).mono ?_
  rintro e w1 ⟨rfl, hb1⟩
  rw [HR.out]
  have hY := (Blk.new_at (g := w.heap.size + 1) (by simp) _ _).below hb1 (by simp)
  have hB1 : Below w.heap.size w w1 := Below.trans (by go_grown) (hb1.mono (by simp; omega))
  have y0 := hY.cells 0 _ rfl
  have y1 := hY.cells 1 _ rfl
  have yf := hY.frozen
  have hyl := hY.lt
  simp only [List.getElem_toArray, List.getElem_cons_zero, List.getElem_cons_succ] at y0 y1
  clear hb1 hY
  go_wp2_with (with_reducible refine end_at ?_)
  refine end_ret (v := .tuple #[.agg #[.slice none 0 0, .slice none 0 0], .bool false, .int .i64 er]) (by simp [results, Tryd.results29, go_sem, y0, y1]; try rfl) rfl ?_
  refine ⟨_, by rw [HF.out], ?_, by go_grown⟩
  rw [HF.out]; exact ⟨none, 0, none, 0, rfl, World.ownsRow_nil _ _ _ _, World.ownsRow_nil _ _ _ _⟩

set_option maxHeartbeats 4000000 in
set_option maxRecDepth 100000 in
theorem refput_in (p : Plat) (i : Int) (s : ByteArray) (N : Nat) (hN : N ≤ 4) (A A' : Option Addr) (n m c d : Nat) (w : World) (HP : PlatPre w A n A' m p) (hn9 : n ≤ 1000) (hm9 : m ≤ 1000) (hg : (getF p i).2.2 = 0) :
    Calls Tryd.prog 29 #[.agg #[.slice A n c, .slice A' m d], .int .i64 i, .string s, .int .i64 (N : Int)] w (OutDo w.heap.size w (putF p i s (N : Int))) := by
  obtain ⟨old, M, far, hm, hM, hB, hM1, hm1, hf1, hf2, hMe, hff⟩ := marks hg
  obtain ⟨hcp, hi0, hin, hi2⟩ := read_pos (get_read hg)
  have hl := (HP.step (Below.refl _ _)).1.1
  have hl' := (HP.step (Below.refl _ _)).2.1
  have h0 : 0 ≤ i := hi0
  have h1 : i < 1000 := by omega
  have HF : Hid (putF p i s (N : Int) = doN p (i + far) s i M N) := by
    rw [Hid, putF_do hg, hm]
    dsimp only
    rw [hM, hB, mostN_in hN]
  have HBD : Hid (bodyAt M i = (i + far, true)) := by unfold Hid bodyAt; rw [hB]; rfl
  have HMC := Lib.hid (mark_cases old)
  have HLEN := Lib.hid (doTo_len (i1 := i + far) (s1 := s) (i2 := i) (s2 := M) hcp)
  rw [hM] at HMC
  generalize hr : getF p i = r at *
  have HR := Lib.hid hr
  obtain ⟨t, ok, er⟩ := r
  dsimp only at hg
  subst hg
  have HR2 := Lib.hid hm
  generalize hf : putF p i s (N : Int) = rf at HF ⊢
  have HL := Lib.hid (And.intro hl hl')
  clear hr hcp hin hi2 hf hm hM hB hM1 hm1 hf1 hf2 hMe hff hi0 hl hl'
  go_enter Tryd.func29, Tryd.ntmps29
  go_wp2_with fail
  refine (refget_any p i A A' n m c d _ (HP.step (by go_grown)) hn9 hm9).mono ?_
  rintro e w1 ⟨rfl, hb1⟩
  rw [HR.out]
  have hX := ((Blk.new w _ _).alloc _).below hb1 (by simp; omega)
  have hY := (Blk.new_at (g := w.heap.size + 1) (by simp) _ _).below hb1 (by simp)
  have hB1 : Below w.heap.size w w1 := Below.trans (by go_grown) (hb1.mono (by simp; omega))
  have x0 := hX.cells 0 _ rfl
  have x1 := hX.cells 1 _ rfl
  simp only [List.getElem_toArray, List.getElem_cons_zero, List.getElem_cons_succ] at x0 x1
  clear hb1
  have HER : Hid (∀ (k : Nat) (q1 : Plat) (er : Int), k < N → doTo p (i + far) s i M (k + 1) = (q1, er) → er ≠ 0 → rf = (noPlat, false, er)) := fun k q1 er hk h1 h2 => by rw [HF.out]; exact doN_bad hk h1 h2
  have HOK : Hid (∀ q : Plat, doTo p (i + far) s i M N = (q, 0) → rf = (q, decide (N = 4), 0)) := fun q h => by rw [HF.out]; exact doN_ok h
  clear HF
  go_wp2_with fail
  refine (refread_any p i A A' n m c d _ (HP.step hB1) (by omega) (by omega)).mono ?_
  rintro e w2 ⟨rfl, hb2⟩
  rw [HR2.out]
  have hX2 := hX.below hb2 hX.lt
  have hY2 := hY.below hb2 hY.lt
  have hB2 := hB1.trans (hb2.mono hB1.size)
  clear hb2 hB1 hX hY x0 x1
  dsimp only
  go_upto_if 45 with (fail)
  go_cut [16] from 22 to 69 (fun s16 wx => s16 = .string M ∧ w2 = wx)
  case first =>
    go_wp2_with fail
    · have hq2 : (old.toList == [48]) = true := by assumption
      go_meet
      refine ⟨?_, rfl⟩
      rcases HMC.out with ⟨hq, hM⟩ | ⟨hq, hM⟩
      · rw [hM]
      · simp [hq] at hq2
    · have hq2 : (old.toList == [48]) = false := by assumption
      go_meet
      refine ⟨?_, rfl⟩
      rcases HMC.out with ⟨hq, hM⟩ | ⟨hq, hM⟩
      · simp [hq] at hq2
      · rw [hM]
  case rest =>
  obtain ⟨rfl, rfl⟩ := hcut
  have x0 := hX2.cells 0 _ rfl
  have x1 := hX2.cells 1 _ rfl
  simp only [List.getElem_toArray, List.getElem_cons_zero, List.getElem_cons_succ] at x0 x1
  go_wp2_with fail
  refine (own13_any p A A' n m c d _ (HP.step hB2) hn9 hm9).mono ?_
  rintro e w3 ⟨v, rfl, ⟨A3, c3, A3', c3', rfl, ho1, ho2⟩, hb3⟩
  have hY3 := hY2.below hb3 hY2.lt
  have hB3 := hB2.trans (hb3.mono hB2.size)
  have HO3 := Lib.hid (And.intro (own_base (base' := w.heap.size) ho1 hB2.size) (own_base (base' := w.heap.size) ho2 hB2.size))
  have hz3 := hb3.size
  have hyl3 := hY3.lt
  clear hb3 hB2 hX2 hY2 x0 x1 ho1 ho2
  go_wp2_with fail
  have hX0 : Blk (w3.alloc (.cells #[.slice A3 p.sectors.length c3, .slice A3' p.cache.length c3'] 25)) w3.heap.size 25 #[.slice A3 p.sectors.length c3, .slice A3' p.cache.length c3'] := Blk.new _ _ _
  have hY0 := hY3.alloc (.cells #[.slice A3 p.sectors.length c3, .slice A3' p.cache.length c3'] 25)
  go_loopw [18] (fun iv wr => ∃ (k : Nat) (q : Plat) (A : Option Addr) (c : Nat) (A' : Option Addr) (c' : Nat), k ≤ N ∧ iv = .int .i64 k ∧ Hid (doTo p (i + far) s i M k = (q, 0)) ∧ Below w.heap.size w wr ∧ Blk wr w3.heap.size 25 #[.slice A q.sectors.length c, .slice A' q.cache.length c'] ∧ Blk wr (w.heap.size + 1) 25 #[.slice none 0 0, .slice none 0 0] ∧ Hid (wr.ownsRow w.heap.size 9 1 (.slice A q.sectors.length c) q.sectors.length (flat encS q.sectors) ∧ wr.ownsRow w.heap.size 52 2 (.slice A' q.cache.length c') q.cache.length (flat encP q.cache))) (fun iv _ => N - (intOf iv).toNat)
  case atStart => exact ⟨0, p, A3, c3, A3', c3', Nat.zero_le _, rfl, rfl, by have := hB3.size; go_grown, hX0, hY0, ⟨HO3.out.1.alloc _, HO3.out.2.alloc _⟩⟩
  case round =>
  clear hX0 hY0 hY3
  obtain ⟨k, q, A, c, A', c', hk, rfl, HQ, hBr, hX, hY, HO⟩ := hrel
  by_cases hlt : k < N
  · have HST := Lib.hid (doTo_next HQ.out)
    have HPq := rows_pre2 HO.out.1 HO.out.2
    have hlen : q.sectors.length ≤ 1000 ∧ q.cache.length ≤ 1000 := HLEN.out k q (by omega) HQ.out
    obtain ⟨hq1, hq2⟩ := hlen
    have x0 := hX.cells 0 _ rfl
    have x1 := hX.cells 1 _ rfl
    simp only [List.getElem_toArray, List.getElem_cons_zero, List.getElem_cons_succ] at x0 x1
    have hzr := hBr.size
    clear HO
    have hkc : k = 0 ∨ k = 1 ∨ k = 2 ∨ k = 3 := by omega
    rcases hkc with rfl | rfl | rfl | rfl

    · go_wp2_with fail
      refine (refdeed0 q i M s far A A' _ _ c c' _ (HPq.step (by go_grown)) (by omega) (by omega) h0 h1 HBD.out).mono ?_
      rintro e w5 ⟨v, rfl, ⟨A5, c5, A5', c5', rfl, ho1, ho2⟩, hb5⟩
      generalize hcl : deedF (i + far) s i M 0 q = R at HST ho1 ho2 ⊢
      clear hcl
      obtain ⟨q1, er⟩ := R
      dsimp only at ho1 ho2 ⊢
      have hX5 := hX.below hb5 hX.lt
      have hY5 := hY.below hb5 hY.lt
      have hB5 := hBr.trans (hb5.mono hBr.size)
      have ho1 := own_base (base' := w.heap.size) ho1 (by have := hBr.size; omega)
      have ho2 := own_base (base' := w.heap.size) ho2 (by have := hBr.size; omega)
      have HO5 := Lib.hid (And.intro ho1 ho2)
      have x0 := hX5.cells 0 _ rfl
      have x1 := hX5.cells 1 _ rfl
      have xf := hX5.frozen
      have hxl := hX5.lt
      have y0 := hY5.cells 0 _ rfl
      have y1 := hY5.cells 1 _ rfl
      have yf := hY5.frozen
      have hyl := hY5.lt
      simp only [List.getElem_toArray, List.getElem_cons_zero, List.getElem_cons_succ] at x0 x1 y0 y1
      have HX5 := Lib.hid (And.intro hX5 hY5)
      clear ho1 ho2 hb5 hX hY hBr HPq hX5 hY5
      by_cases her : er = 0
      · subst her
        go_wp2_with fail
        go_roundw
        case rel =>
          refine ⟨0 + 1, q1, A5, c5, A5', c5', by omega, by go_num, HST, ?_, ?_, ?_, ?_⟩
          · have := hB5
            go_grown
          · have := (((HX5.out.1.set_ 0 (.slice A5 q1.sectors.length c5)).set_ 1 (.slice A5' q1.cache.length c5'))).alloc (.cells #[.slice A5 q1.sectors.length c5, .slice A5' q1.cache.length c5'] 25)
            simpa using this
          · exact ((HX5.out.2.far (p := ⟨w3.heap.size, 0, none⟩) (by simp; omega) _).far (p := ⟨w3.heap.size, 1, none⟩) (by simp; omega) _).alloc _
          · have h1 := HO5.out.1
            have h2 := HO5.out.2
            have n1 := own_blk_ne h1 HX5.out.1 (by decide)
            have n2 := own_blk_ne h2 HX5.out.1 (by decide)
            exact ⟨(own_far (own_far h1 n1 _ _) n1 _ _).alloc _, (own_far (own_far h2 n2 _ _) n2 _ _).alloc _⟩
        case measure => simp [intOf] <;> omega
      · have t1 : (er != 0) = true := by simpa using her
        have HE := Lib.hid (HER.out 0 q1 er (by omega) HST her)
        clear her
        go_wp2_with (with_reducible refine end_at ?_)
        refine end_ret (v := .tuple #[.agg #[.slice none 0 0, .slice none 0 0], .bool false, .int .i64 er]) (by simp [results, Tryd.results29, go_sem, y0, y1, hyl]; try rfl) rfl ?_
        refine ⟨_, by rw [HE.out], ?_, ?_⟩
        · rw [HE.out]; exact ⟨none, 0, none, 0, rfl, World.ownsRow_nil _ _ _ _, World.ownsRow_nil _ _ _ _⟩
        · have := hB5
          go_grown
    · go_wp2_with fail
      refine (refdeed1 q i M s far A A' _ _ c c' _ (HPq.step (by go_grown)) (by omega) (by omega) h0 h1 HBD.out).mono ?_
      rintro e w5 ⟨v, rfl, ⟨A5, c5, A5', c5', rfl, ho1, ho2⟩, hb5⟩
      generalize hcl : deedF (i + far) s i M 1 q = R at HST ho1 ho2 ⊢
      clear hcl
      obtain ⟨q1, er⟩ := R
      dsimp only at ho1 ho2 ⊢
      have hX5 := hX.below hb5 hX.lt
      have hY5 := hY.below hb5 hY.lt
      have hB5 := hBr.trans (hb5.mono hBr.size)
      have ho1 := own_base (base' := w.heap.size) ho1 (by have := hBr.size; omega)
      have ho2 := own_base (base' := w.heap.size) ho2 (by have := hBr.size; omega)
      have HO5 := Lib.hid (And.intro ho1 ho2)
      have x0 := hX5.cells 0 _ rfl
      have x1 := hX5.cells 1 _ rfl
      have xf := hX5.frozen
      have hxl := hX5.lt
      have y0 := hY5.cells 0 _ rfl
      have y1 := hY5.cells 1 _ rfl
      have yf := hY5.frozen
      have hyl := hY5.lt
      simp only [List.getElem_toArray, List.getElem_cons_zero, List.getElem_cons_succ] at x0 x1 y0 y1
      have HX5 := Lib.hid (And.intro hX5 hY5)
      clear ho1 ho2 hb5 hX hY hBr HPq hX5 hY5
      by_cases her : er = 0
      · subst her
        go_wp2_with fail
        go_roundw
        case rel =>
          refine ⟨1 + 1, q1, A5, c5, A5', c5', by omega, by go_num, HST, ?_, ?_, ?_, ?_⟩
          · have := hB5
            go_grown
          · have := (((HX5.out.1.set_ 0 (.slice A5 q1.sectors.length c5)).set_ 1 (.slice A5' q1.cache.length c5'))).alloc (.cells #[.slice A5 q1.sectors.length c5, .slice A5' q1.cache.length c5'] 25)
            simpa using this
          · exact ((HX5.out.2.far (p := ⟨w3.heap.size, 0, none⟩) (by simp; omega) _).far (p := ⟨w3.heap.size, 1, none⟩) (by simp; omega) _).alloc _
          · have h1 := HO5.out.1
            have h2 := HO5.out.2
            have n1 := own_blk_ne h1 HX5.out.1 (by decide)
            have n2 := own_blk_ne h2 HX5.out.1 (by decide)
            exact ⟨(own_far (own_far h1 n1 _ _) n1 _ _).alloc _, (own_far (own_far h2 n2 _ _) n2 _ _).alloc _⟩
        case measure => simp [intOf] <;> omega
      · have t1 : (er != 0) = true := by simpa using her
        have HE := Lib.hid (HER.out 1 q1 er (by omega) HST her)
        clear her
        go_wp2_with (with_reducible refine end_at ?_)
        refine end_ret (v := .tuple #[.agg #[.slice none 0 0, .slice none 0 0], .bool false, .int .i64 er]) (by simp [results, Tryd.results29, go_sem, y0, y1, hyl]; try rfl) rfl ?_
        refine ⟨_, by rw [HE.out], ?_, ?_⟩
        · rw [HE.out]; exact ⟨none, 0, none, 0, rfl, World.ownsRow_nil _ _ _ _, World.ownsRow_nil _ _ _ _⟩
        · have := hB5
          go_grown
    · go_wp2_with fail
      refine (refdeed2 q i M s far A A' _ _ c c' _ (HPq.step (by go_grown)) (by omega) (by omega) h0 h1 HBD.out).mono ?_
      rintro e w5 ⟨v, rfl, ⟨A5, c5, A5', c5', rfl, ho1, ho2⟩, hb5⟩
      generalize hcl : deedF (i + far) s i M 2 q = R at HST ho1 ho2 ⊢
      clear hcl
      obtain ⟨q1, er⟩ := R
      dsimp only at ho1 ho2 ⊢
      have hX5 := hX.below hb5 hX.lt
      have hY5 := hY.below hb5 hY.lt
      have hB5 := hBr.trans (hb5.mono hBr.size)
      have ho1 := own_base (base' := w.heap.size) ho1 (by have := hBr.size; omega)
      have ho2 := own_base (base' := w.heap.size) ho2 (by have := hBr.size; omega)
      have HO5 := Lib.hid (And.intro ho1 ho2)
      have x0 := hX5.cells 0 _ rfl
      have x1 := hX5.cells 1 _ rfl
      have xf := hX5.frozen
      have hxl := hX5.lt
      have y0 := hY5.cells 0 _ rfl
      have y1 := hY5.cells 1 _ rfl
      have yf := hY5.frozen
      have hyl := hY5.lt
      simp only [List.getElem_toArray, List.getElem_cons_zero, List.getElem_cons_succ] at x0 x1 y0 y1
      have HX5 := Lib.hid (And.intro hX5 hY5)
      clear ho1 ho2 hb5 hX hY hBr HPq hX5 hY5
      by_cases her : er = 0
      · subst her
        go_wp2_with fail
        go_roundw
        case rel =>
          refine ⟨2 + 1, q1, A5, c5, A5', c5', by omega, by go_num, HST, ?_, ?_, ?_, ?_⟩
          · have := hB5
            go_grown
          · have := (((HX5.out.1.set_ 0 (.slice A5 q1.sectors.length c5)).set_ 1 (.slice A5' q1.cache.length c5'))).alloc (.cells #[.slice A5 q1.sectors.length c5, .slice A5' q1.cache.length c5'] 25)
            simpa using this
          · exact ((HX5.out.2.far (p := ⟨w3.heap.size, 0, none⟩) (by simp; omega) _).far (p := ⟨w3.heap.size, 1, none⟩) (by simp; omega) _).alloc _
          · have h1 := HO5.out.1
            have h2 := HO5.out.2
            have n1 := own_blk_ne h1 HX5.out.1 (by decide)
            have n2 := own_blk_ne h2 HX5.out.1 (by decide)
            exact ⟨(own_far (own_far h1 n1 _ _) n1 _ _).alloc _, (own_far (own_far h2 n2 _ _) n2 _ _).alloc _⟩
        case measure => simp [intOf] <;> omega
      · have t1 : (er != 0) = true := by simpa using her
        have HE := Lib.hid (HER.out 2 q1 er (by omega) HST her)
        clear her
        go_wp2_with (with_reducible refine end_at ?_)
        refine end_ret (v := .tuple #[.agg #[.slice none 0 0, .slice none 0 0], .bool false, .int .i64 er]) (by simp [results, Tryd.results29, go_sem, y0, y1, hyl]; try rfl) rfl ?_
        refine ⟨_, by rw [HE.out], ?_, ?_⟩
        · rw [HE.out]; exact ⟨none, 0, none, 0, rfl, World.ownsRow_nil _ _ _ _, World.ownsRow_nil _ _ _ _⟩
        · have := hB5
          go_grown
    · go_wp2_with fail
      refine (refdeed3 q i M s far A A' _ _ c c' _ (HPq.step (by go_grown)) (by omega) (by omega) h0 h1 HBD.out).mono ?_
      rintro e w5 ⟨v, rfl, ⟨A5, c5, A5', c5', rfl, ho1, ho2⟩, hb5⟩
      generalize hcl : deedF (i + far) s i M 3 q = R at HST ho1 ho2 ⊢
      clear hcl
      obtain ⟨q1, er⟩ := R
      dsimp only at ho1 ho2 ⊢
      have hX5 := hX.below hb5 hX.lt
      have hY5 := hY.below hb5 hY.lt
      have hB5 := hBr.trans (hb5.mono hBr.size)
      have ho1 := own_base (base' := w.heap.size) ho1 (by have := hBr.size; omega)
      have ho2 := own_base (base' := w.heap.size) ho2 (by have := hBr.size; omega)
      have HO5 := Lib.hid (And.intro ho1 ho2)
      have x0 := hX5.cells 0 _ rfl
      have x1 := hX5.cells 1 _ rfl
      have xf := hX5.frozen
      have hxl := hX5.lt
      have y0 := hY5.cells 0 _ rfl
      have y1 := hY5.cells 1 _ rfl
      have yf := hY5.frozen
      have hyl := hY5.lt
      simp only [List.getElem_toArray, List.getElem_cons_zero, List.getElem_cons_succ] at x0 x1 y0 y1
      have HX5 := Lib.hid (And.intro hX5 hY5)
      clear ho1 ho2 hb5 hX hY hBr HPq hX5 hY5
      by_cases her : er = 0
      · subst her
        go_wp2_with fail
        go_roundw
        case rel =>
          refine ⟨3 + 1, q1, A5, c5, A5', c5', by omega, by go_num, HST, ?_, ?_, ?_, ?_⟩
          · have := hB5
            go_grown
          · have := (((HX5.out.1.set_ 0 (.slice A5 q1.sectors.length c5)).set_ 1 (.slice A5' q1.cache.length c5'))).alloc (.cells #[.slice A5 q1.sectors.length c5, .slice A5' q1.cache.length c5'] 25)
            simpa using this
          · exact ((HX5.out.2.far (p := ⟨w3.heap.size, 0, none⟩) (by simp; omega) _).far (p := ⟨w3.heap.size, 1, none⟩) (by simp; omega) _).alloc _
          · have h1 := HO5.out.1
            have h2 := HO5.out.2
            have n1 := own_blk_ne h1 HX5.out.1 (by decide)
            have n2 := own_blk_ne h2 HX5.out.1 (by decide)
            exact ⟨(own_far (own_far h1 n1 _ _) n1 _ _).alloc _, (own_far (own_far h2 n2 _ _) n2 _ _).alloc _⟩
        case measure => simp [intOf] <;> omega
      · have t1 : (er != 0) = true := by simpa using her
        have HE := Lib.hid (HER.out 3 q1 er (by omega) HST her)
        clear her
        go_wp2_with (with_reducible refine end_at ?_)
        refine end_ret (v := .tuple #[.agg #[.slice none 0 0, .slice none 0 0], .bool false, .int .i64 er]) (by simp [results, Tryd.results29, go_sem, y0, y1, hyl]; try rfl) rfl ?_
        refine ⟨_, by rw [HE.out], ?_, ?_⟩
        · rw [HE.out]; exact ⟨none, 0, none, 0, rfl, World.ownsRow_nil _ _ _ _, World.ownsRow_nil _ _ _ _⟩
        · have := hB5
          go_grown
  · obtain rfl : k = N := by omega
    have HE := Lib.hid (HOK.out q HQ.out)
    have x0 := hX.cells 0 _ rfl
    have x1 := hX.cells 1 _ rfl
    have hxl := hX.lt
    have y0 := hY.cells 0 _ rfl
    have y1 := hY.cells 1 _ rfl
    have yf := hY.frozen
    have hyl := hY.lt
    simp only [List.getElem_toArray, List.getElem_cons_zero, List.getElem_cons_succ] at x0 x1 y0 y1
    have n1 := own_blk_ne HO.out.1 hY (by decide)
    have n2 := own_blk_ne HO.out.2 hY (by decide)
    clear hX hY
    by_cases hN4 : k = 4
    · subst hN4
      go_wp2_with (with_reducible refine end_at ?_)
      refine end_ret (v := .tuple #[.agg #[.slice A q.sectors.length c, .slice A' q.cache.length c'], .bool true, .int .i64 0]) (by simp [results, Tryd.results29, go_sem, y0, y1]; try rfl) rfl ?_
      refine ⟨.agg #[.slice A q.sectors.length c, .slice A' q.cache.length c'], by (rw [HE.out]; simp), ?_, ?_⟩
      · rw [HE.out]; exact ⟨A, c, A', c', rfl, own_far (own_far HO.out.1 n1 _ _) n1 _ _, own_far (own_far HO.out.2 n2 _ _) n2 _ _⟩
      · have := hBr
        go_grown
    · have t4 : ((k : Int) == 4) = false := by simp; omega
      have HN4 := Lib.hid (show decide (k = 4) = false by simpa using hN4)
      clear hN4
      go_wp2_with (with_reducible refine end_at ?_)
      refine end_ret (v := .tuple #[.agg #[.slice A q.sectors.length c, .slice A' q.cache.length c'], .bool false, .int .i64 0]) (by simp [results, Tryd.results29, go_sem, y0, y1]; try rfl) rfl ?_
      refine ⟨.agg #[.slice A q.sectors.length c, .slice A' q.cache.length c'], by (rw [HE.out]; simp only [HN4.out]), ?_, ?_⟩
      · rw [HE.out]; exact ⟨A, c, A', c', rfl, own_far (own_far HO.out.1 n1 _ _) n1 _ _, own_far (own_far HO.out.2 n2 _ _) n2 _ _⟩
      · have := hBr
        go_grown
set_option maxHeartbeats 4000000 in
set_option maxRecDepth 100000 in
theorem refput_neg (p : Plat) (i : Int) (s : ByteArray) (most : Int) (hneg : most < 0) (A A' : Option Addr) (n m c d : Nat) (w : World) (HP : PlatPre w A n A' m p) (hn9 : n ≤ 1000) (hm9 : m ≤ 1000) (hg : (getF p i).2.2 = 0) :
    Calls Tryd.prog 29 #[.agg #[.slice A n c, .slice A' m d], .int .i64 i, .string s, .int .i64 most] w (OutDo w.heap.size w (putF p i s most)) := by
  obtain ⟨old, M, far, hm, hM, hB, hM1, hm1, hf1, hf2, hMe, hff⟩ := marks hg
  obtain ⟨hcp, hi0, hin, hi2⟩ := read_pos (get_read hg)
  have hl := (HP.step (Below.refl _ _)).1.1
  have hl' := (HP.step (Below.refl _ _)).2.1
  have h0 : 0 ≤ i := hi0
  have h1 : i < 1000 := by omega
  have HF : Hid (putF p i s most = doN p (i + far) s i M 4) := by
    rw [Hid, putF_do hg, hm]
    dsimp only
    rw [hM, hB, mostN_neg hneg]
  have HBD : Hid (bodyAt M i = (i + far, true)) := by unfold Hid bodyAt; rw [hB]; rfl
  have HMC := Lib.hid (mark_cases old)
  have HLEN := Lib.hid (doTo_len (i1 := i + far) (s1 := s) (i2 := i) (s2 := M) hcp)
  rw [hM] at HMC
  generalize hr : getF p i = r at *
  have HR := Lib.hid hr
  obtain ⟨t, ok, er⟩ := r
  dsimp only at hg
  subst hg
  have HR2 := Lib.hid hm
  generalize hf : putF p i s most = rf at HF ⊢
  have HL := Lib.hid (And.intro hl hl')
  clear hr hcp hin hi2 hf hm hM hB hM1 hm1 hf1 hf2 hMe hff hi0 hl hl'
  go_enter Tryd.func29, Tryd.ntmps29
  go_wp2_with fail
  refine (refget_any p i A A' n m c d _ (HP.step (by go_grown)) hn9 hm9).mono ?_
  rintro e w1 ⟨rfl, hb1⟩
  rw [HR.out]
  have hX := ((Blk.new w _ _).alloc _).below hb1 (by simp; omega)
  have hY := (Blk.new_at (g := w.heap.size + 1) (by simp) _ _).below hb1 (by simp)
  have hB1 : Below w.heap.size w w1 := Below.trans (by go_grown) (hb1.mono (by simp; omega))
  have x0 := hX.cells 0 _ rfl
  have x1 := hX.cells 1 _ rfl
  simp only [List.getElem_toArray, List.getElem_cons_zero, List.getElem_cons_succ] at x0 x1
  clear hb1
  have HER : Hid (∀ (k : Nat) (q1 : Plat) (er : Int), k < 4 → doTo p (i + far) s i M (k + 1) = (q1, er) → er ≠ 0 → rf = (noPlat, false, er)) := fun k q1 er hk h1 h2 => by rw [HF.out]; exact doN_bad hk h1 h2
  have HOK : Hid (∀ q : Plat, doTo p (i + far) s i M 4 = (q, 0) → rf = (q, decide (4 = 4), 0)) := fun q h => by rw [HF.out]; exact doN_ok h
  clear HF
  go_wp2_with fail
  refine (refread_any p i A A' n m c d _ (HP.step hB1) (by omega) (by omega)).mono ?_
  rintro e w2 ⟨rfl, hb2⟩
  rw [HR2.out]
  have hX2 := hX.below hb2 hX.lt
  have hY2 := hY.below hb2 hY.lt
  have hB2 := hB1.trans (hb2.mono hB1.size)
  clear hb2 hB1 hX hY x0 x1
  dsimp only
  go_upto_if 45 with (fail)
  go_cut [16] from 22 to 69 (fun s16 wx => s16 = .string M ∧ w2 = wx)
  case first =>
    go_wp2_with fail
    · have hq2 : (old.toList == [48]) = true := by assumption
      go_meet
      refine ⟨?_, rfl⟩
      rcases HMC.out with ⟨hq, hM⟩ | ⟨hq, hM⟩
      · rw [hM]
      · simp [hq] at hq2
    · have hq2 : (old.toList == [48]) = false := by assumption
      go_meet
      refine ⟨?_, rfl⟩
      rcases HMC.out with ⟨hq, hM⟩ | ⟨hq, hM⟩
      · simp [hq] at hq2
      · rw [hM]
  case rest =>
  obtain ⟨rfl, rfl⟩ := hcut
  have x0 := hX2.cells 0 _ rfl
  have x1 := hX2.cells 1 _ rfl
  simp only [List.getElem_toArray, List.getElem_cons_zero, List.getElem_cons_succ] at x0 x1
  go_wp2_with fail
  refine (own13_any p A A' n m c d _ (HP.step hB2) hn9 hm9).mono ?_
  rintro e w3 ⟨v, rfl, ⟨A3, c3, A3', c3', rfl, ho1, ho2⟩, hb3⟩
  have hY3 := hY2.below hb3 hY2.lt
  have hB3 := hB2.trans (hb3.mono hB2.size)
  have HO3 := Lib.hid (And.intro (own_base (base' := w.heap.size) ho1 hB2.size) (own_base (base' := w.heap.size) ho2 hB2.size))
  have hz3 := hb3.size
  have hyl3 := hY3.lt
  clear hb3 hB2 hX2 hY2 x0 x1 ho1 ho2
  go_wp2_with fail
  have hX0 : Blk (w3.alloc (.cells #[.slice A3 p.sectors.length c3, .slice A3' p.cache.length c3'] 25)) w3.heap.size 25 #[.slice A3 p.sectors.length c3, .slice A3' p.cache.length c3'] := Blk.new _ _ _
  have hY0 := hY3.alloc (.cells #[.slice A3 p.sectors.length c3, .slice A3' p.cache.length c3'] 25)
  go_loopw [18] (fun iv wr => ∃ (k : Nat) (q : Plat) (A : Option Addr) (c : Nat) (A' : Option Addr) (c' : Nat), k ≤ 4 ∧ iv = .int .i64 k ∧ Hid (doTo p (i + far) s i M k = (q, 0)) ∧ Below w.heap.size w wr ∧ Blk wr w3.heap.size 25 #[.slice A q.sectors.length c, .slice A' q.cache.length c'] ∧ Blk wr (w.heap.size + 1) 25 #[.slice none 0 0, .slice none 0 0] ∧ Hid (wr.ownsRow w.heap.size 9 1 (.slice A q.sectors.length c) q.sectors.length (flat encS q.sectors) ∧ wr.ownsRow w.heap.size 52 2 (.slice A' q.cache.length c') q.cache.length (flat encP q.cache))) (fun iv _ => 4 - (intOf iv).toNat)
  case atStart => exact ⟨0, p, A3, c3, A3', c3', Nat.zero_le _, rfl, rfl, by have := hB3.size; go_grown, hX0, hY0, ⟨HO3.out.1.alloc _, HO3.out.2.alloc _⟩⟩
  case round =>
  clear hX0 hY0 hY3
  obtain ⟨k, q, A, c, A', c', hk, rfl, HQ, hBr, hX, hY, HO⟩ := hrel
  by_cases hlt : k < 4
  · have HST := Lib.hid (doTo_next HQ.out)
    have HPq := rows_pre2 HO.out.1 HO.out.2
    have hlen : q.sectors.length ≤ 1000 ∧ q.cache.length ≤ 1000 := HLEN.out k q (by omega) HQ.out
    obtain ⟨hq1, hq2⟩ := hlen
    have x0 := hX.cells 0 _ rfl
    have x1 := hX.cells 1 _ rfl
    simp only [List.getElem_toArray, List.getElem_cons_zero, List.getElem_cons_succ] at x0 x1
    have hzr := hBr.size
    clear HO
    have hkc : k = 0 ∨ k = 1 ∨ k = 2 ∨ k = 3 := by omega
    rcases hkc with rfl | rfl | rfl | rfl

    · go_wp2_with fail
      refine (refdeed0 q i M s far A A' _ _ c c' _ (HPq.step (by go_grown)) (by omega) (by omega) h0 h1 HBD.out).mono ?_
      rintro e w5 ⟨v, rfl, ⟨A5, c5, A5', c5', rfl, ho1, ho2⟩, hb5⟩
      generalize hcl : deedF (i + far) s i M 0 q = R at HST ho1 ho2 ⊢
      clear hcl
      obtain ⟨q1, er⟩ := R
      dsimp only at ho1 ho2 ⊢
      have hX5 := hX.below hb5 hX.lt
      have hY5 := hY.below hb5 hY.lt
      have hB5 := hBr.trans (hb5.mono hBr.size)
      have ho1 := own_base (base' := w.heap.size) ho1 (by have := hBr.size; omega)
      have ho2 := own_base (base' := w.heap.size) ho2 (by have := hBr.size; omega)
      have HO5 := Lib.hid (And.intro ho1 ho2)
      have x0 := hX5.cells 0 _ rfl
      have x1 := hX5.cells 1 _ rfl
      have xf := hX5.frozen
      have hxl := hX5.lt
      have y0 := hY5.cells 0 _ rfl
      have y1 := hY5.cells 1 _ rfl
      have yf := hY5.frozen
      have hyl := hY5.lt
      simp only [List.getElem_toArray, List.getElem_cons_zero, List.getElem_cons_succ] at x0 x1 y0 y1
      have HX5 := Lib.hid (And.intro hX5 hY5)
      clear ho1 ho2 hb5 hX hY hBr HPq hX5 hY5
      by_cases her : er = 0
      · subst her
        go_wp2_with fail
        go_roundw
        case rel =>
          refine ⟨0 + 1, q1, A5, c5, A5', c5', by omega, by go_num, HST, ?_, ?_, ?_, ?_⟩
          · have := hB5
            go_grown
          · have := (((HX5.out.1.set_ 0 (.slice A5 q1.sectors.length c5)).set_ 1 (.slice A5' q1.cache.length c5'))).alloc (.cells #[.slice A5 q1.sectors.length c5, .slice A5' q1.cache.length c5'] 25)
            simpa using this
          · exact ((HX5.out.2.far (p := ⟨w3.heap.size, 0, none⟩) (by simp; omega) _).far (p := ⟨w3.heap.size, 1, none⟩) (by simp; omega) _).alloc _
          · have h1 := HO5.out.1
            have h2 := HO5.out.2
            have n1 := own_blk_ne h1 HX5.out.1 (by decide)
            have n2 := own_blk_ne h2 HX5.out.1 (by decide)
            exact ⟨(own_far (own_far h1 n1 _ _) n1 _ _).alloc _, (own_far (own_far h2 n2 _ _) n2 _ _).alloc _⟩
        case measure => simp [intOf] <;> omega
      · have t1 : (er != 0) = true := by simpa using her
        have HE := Lib.hid (HER.out 0 q1 er (by omega) HST her)
        clear her
        go_wp2_with (with_reducible refine end_at ?_)
        refine end_ret (v := .tuple #[.agg #[.slice none 0 0, .slice none 0 0], .bool false, .int .i64 er]) (by simp [results, Tryd.results29, go_sem, y0, y1, hyl]; try rfl) rfl ?_
        refine ⟨_, by rw [HE.out], ?_, ?_⟩
        · rw [HE.out]; exact ⟨none, 0, none, 0, rfl, World.ownsRow_nil _ _ _ _, World.ownsRow_nil _ _ _ _⟩
        · have := hB5
          go_grown
    · go_wp2_with fail
      refine (refdeed1 q i M s far A A' _ _ c c' _ (HPq.step (by go_grown)) (by omega) (by omega) h0 h1 HBD.out).mono ?_
      rintro e w5 ⟨v, rfl, ⟨A5, c5, A5', c5', rfl, ho1, ho2⟩, hb5⟩
      generalize hcl : deedF (i + far) s i M 1 q = R at HST ho1 ho2 ⊢
      clear hcl
      obtain ⟨q1, er⟩ := R
      dsimp only at ho1 ho2 ⊢
      have hX5 := hX.below hb5 hX.lt
      have hY5 := hY.below hb5 hY.lt
      have hB5 := hBr.trans (hb5.mono hBr.size)
      have ho1 := own_base (base' := w.heap.size) ho1 (by have := hBr.size; omega)
      have ho2 := own_base (base' := w.heap.size) ho2 (by have := hBr.size; omega)
      have HO5 := Lib.hid (And.intro ho1 ho2)
      have x0 := hX5.cells 0 _ rfl
      have x1 := hX5.cells 1 _ rfl
      have xf := hX5.frozen
      have hxl := hX5.lt
      have y0 := hY5.cells 0 _ rfl
      have y1 := hY5.cells 1 _ rfl
      have yf := hY5.frozen
      have hyl := hY5.lt
      simp only [List.getElem_toArray, List.getElem_cons_zero, List.getElem_cons_succ] at x0 x1 y0 y1
      have HX5 := Lib.hid (And.intro hX5 hY5)
      clear ho1 ho2 hb5 hX hY hBr HPq hX5 hY5
      by_cases her : er = 0
      · subst her
        go_wp2_with fail
        go_roundw
        case rel =>
          refine ⟨1 + 1, q1, A5, c5, A5', c5', by omega, by go_num, HST, ?_, ?_, ?_, ?_⟩
          · have := hB5
            go_grown
          · have := (((HX5.out.1.set_ 0 (.slice A5 q1.sectors.length c5)).set_ 1 (.slice A5' q1.cache.length c5'))).alloc (.cells #[.slice A5 q1.sectors.length c5, .slice A5' q1.cache.length c5'] 25)
            simpa using this
          · exact ((HX5.out.2.far (p := ⟨w3.heap.size, 0, none⟩) (by simp; omega) _).far (p := ⟨w3.heap.size, 1, none⟩) (by simp; omega) _).alloc _
          · have h1 := HO5.out.1
            have h2 := HO5.out.2
            have n1 := own_blk_ne h1 HX5.out.1 (by decide)
            have n2 := own_blk_ne h2 HX5.out.1 (by decide)
            exact ⟨(own_far (own_far h1 n1 _ _) n1 _ _).alloc _, (own_far (own_far h2 n2 _ _) n2 _ _).alloc _⟩
        case measure => simp [intOf] <;> omega
      · have t1 : (er != 0) = true := by simpa using her
        have HE := Lib.hid (HER.out 1 q1 er (by omega) HST her)
        clear her
        go_wp2_with (with_reducible refine end_at ?_)
        refine end_ret (v := .tuple #[.agg #[.slice none 0 0, .slice none 0 0], .bool false, .int .i64 er]) (by simp [results, Tryd.results29, go_sem, y0, y1, hyl]; try rfl) rfl ?_
        refine ⟨_, by rw [HE.out], ?_, ?_⟩
        · rw [HE.out]; exact ⟨none, 0, none, 0, rfl, World.ownsRow_nil _ _ _ _, World.ownsRow_nil _ _ _ _⟩
        · have := hB5
          go_grown
    · go_wp2_with fail
      refine (refdeed2 q i M s far A A' _ _ c c' _ (HPq.step (by go_grown)) (by omega) (by omega) h0 h1 HBD.out).mono ?_
      rintro e w5 ⟨v, rfl, ⟨A5, c5, A5', c5', rfl, ho1, ho2⟩, hb5⟩
      generalize hcl : deedF (i + far) s i M 2 q = R at HST ho1 ho2 ⊢
      clear hcl
      obtain ⟨q1, er⟩ := R
      dsimp only at ho1 ho2 ⊢
      have hX5 := hX.below hb5 hX.lt
      have hY5 := hY.below hb5 hY.lt
      have hB5 := hBr.trans (hb5.mono hBr.size)
      have ho1 := own_base (base' := w.heap.size) ho1 (by have := hBr.size; omega)
      have ho2 := own_base (base' := w.heap.size) ho2 (by have := hBr.size; omega)
      have HO5 := Lib.hid (And.intro ho1 ho2)
      have x0 := hX5.cells 0 _ rfl
      have x1 := hX5.cells 1 _ rfl
      have xf := hX5.frozen
      have hxl := hX5.lt
      have y0 := hY5.cells 0 _ rfl
      have y1 := hY5.cells 1 _ rfl
      have yf := hY5.frozen
      have hyl := hY5.lt
      simp only [List.getElem_toArray, List.getElem_cons_zero, List.getElem_cons_succ] at x0 x1 y0 y1
      have HX5 := Lib.hid (And.intro hX5 hY5)
      clear ho1 ho2 hb5 hX hY hBr HPq hX5 hY5
      by_cases her : er = 0
      · subst her
        go_wp2_with fail
        go_roundw
        case rel =>
          refine ⟨2 + 1, q1, A5, c5, A5', c5', by omega, by go_num, HST, ?_, ?_, ?_, ?_⟩
          · have := hB5
            go_grown
          · have := (((HX5.out.1.set_ 0 (.slice A5 q1.sectors.length c5)).set_ 1 (.slice A5' q1.cache.length c5'))).alloc (.cells #[.slice A5 q1.sectors.length c5, .slice A5' q1.cache.length c5'] 25)
            simpa using this
          · exact ((HX5.out.2.far (p := ⟨w3.heap.size, 0, none⟩) (by simp; omega) _).far (p := ⟨w3.heap.size, 1, none⟩) (by simp; omega) _).alloc _
          · have h1 := HO5.out.1
            have h2 := HO5.out.2
            have n1 := own_blk_ne h1 HX5.out.1 (by decide)
            have n2 := own_blk_ne h2 HX5.out.1 (by decide)
            exact ⟨(own_far (own_far h1 n1 _ _) n1 _ _).alloc _, (own_far (own_far h2 n2 _ _) n2 _ _).alloc _⟩
        case measure => simp [intOf] <;> omega
      · have t1 : (er != 0) = true := by simpa using her
        have HE := Lib.hid (HER.out 2 q1 er (by omega) HST her)
        clear her
        go_wp2_with (with_reducible refine end_at ?_)
        refine end_ret (v := .tuple #[.agg #[.slice none 0 0, .slice none 0 0], .bool false, .int .i64 er]) (by simp [results, Tryd.results29, go_sem, y0, y1, hyl]; try rfl) rfl ?_
        refine ⟨_, by rw [HE.out], ?_, ?_⟩
        · rw [HE.out]; exact ⟨none, 0, none, 0, rfl, World.ownsRow_nil _ _ _ _, World.ownsRow_nil _ _ _ _⟩
        · have := hB5
          go_grown
    · go_wp2_with fail
      refine (refdeed3 q i M s far A A' _ _ c c' _ (HPq.step (by go_grown)) (by omega) (by omega) h0 h1 HBD.out).mono ?_
      rintro e w5 ⟨v, rfl, ⟨A5, c5, A5', c5', rfl, ho1, ho2⟩, hb5⟩
      generalize hcl : deedF (i + far) s i M 3 q = R at HST ho1 ho2 ⊢
      clear hcl
      obtain ⟨q1, er⟩ := R
      dsimp only at ho1 ho2 ⊢
      have hX5 := hX.below hb5 hX.lt
      have hY5 := hY.below hb5 hY.lt
      have hB5 := hBr.trans (hb5.mono hBr.size)
      have ho1 := own_base (base' := w.heap.size) ho1 (by have := hBr.size; omega)
      have ho2 := own_base (base' := w.heap.size) ho2 (by have := hBr.size; omega)
      have HO5 := Lib.hid (And.intro ho1 ho2)
      have x0 := hX5.cells 0 _ rfl
      have x1 := hX5.cells 1 _ rfl
      have xf := hX5.frozen
      have hxl := hX5.lt
      have y0 := hY5.cells 0 _ rfl
      have y1 := hY5.cells 1 _ rfl
      have yf := hY5.frozen
      have hyl := hY5.lt
      simp only [List.getElem_toArray, List.getElem_cons_zero, List.getElem_cons_succ] at x0 x1 y0 y1
      have HX5 := Lib.hid (And.intro hX5 hY5)
      clear ho1 ho2 hb5 hX hY hBr HPq hX5 hY5
      by_cases her : er = 0
      · subst her
        go_wp2_with fail
        go_roundw
        case rel =>
          refine ⟨3 + 1, q1, A5, c5, A5', c5', by omega, by go_num, HST, ?_, ?_, ?_, ?_⟩
          · have := hB5
            go_grown
          · have := (((HX5.out.1.set_ 0 (.slice A5 q1.sectors.length c5)).set_ 1 (.slice A5' q1.cache.length c5'))).alloc (.cells #[.slice A5 q1.sectors.length c5, .slice A5' q1.cache.length c5'] 25)
            simpa using this
          · exact ((HX5.out.2.far (p := ⟨w3.heap.size, 0, none⟩) (by simp; omega) _).far (p := ⟨w3.heap.size, 1, none⟩) (by simp; omega) _).alloc _
          · have h1 := HO5.out.1
            have h2 := HO5.out.2
            have n1 := own_blk_ne h1 HX5.out.1 (by decide)
            have n2 := own_blk_ne h2 HX5.out.1 (by decide)
            exact ⟨(own_far (own_far h1 n1 _ _) n1 _ _).alloc _, (own_far (own_far h2 n2 _ _) n2 _ _).alloc _⟩
        case measure => simp [intOf] <;> omega
      · have t1 : (er != 0) = true := by simpa using her
        have HE := Lib.hid (HER.out 3 q1 er (by omega) HST her)
        clear her
        go_wp2_with (with_reducible refine end_at ?_)
        refine end_ret (v := .tuple #[.agg #[.slice none 0 0, .slice none 0 0], .bool false, .int .i64 er]) (by simp [results, Tryd.results29, go_sem, y0, y1, hyl]; try rfl) rfl ?_
        refine ⟨_, by rw [HE.out], ?_, ?_⟩
        · rw [HE.out]; exact ⟨none, 0, none, 0, rfl, World.ownsRow_nil _ _ _ _, World.ownsRow_nil _ _ _ _⟩
        · have := hB5
          go_grown
  · obtain rfl : k = 4 := by omega
    have HE := Lib.hid (HOK.out q HQ.out)
    have x0 := hX.cells 0 _ rfl
    have x1 := hX.cells 1 _ rfl
    have hxl := hX.lt
    have y0 := hY.cells 0 _ rfl
    have y1 := hY.cells 1 _ rfl
    have yf := hY.frozen
    have hyl := hY.lt
    simp only [List.getElem_toArray, List.getElem_cons_zero, List.getElem_cons_succ] at x0 x1 y0 y1
    have n1 := own_blk_ne HO.out.1 hY (by decide)
    have n2 := own_blk_ne HO.out.2 hY (by decide)
    clear hX hY
    go_wp2_with (with_reducible refine end_at ?_)
    refine end_ret (v := .tuple #[.agg #[.slice A q.sectors.length c, .slice A' q.cache.length c'], .bool true, .int .i64 0]) (by simp [results, Tryd.results29, go_sem, y0, y1]; try rfl) rfl ?_
    refine ⟨.agg #[.slice A q.sectors.length c, .slice A' q.cache.length c'], by (rw [HE.out]; simp), ?_, ?_⟩
    · rw [HE.out]; exact ⟨A, c, A', c', rfl, own_far (own_far HO.out.1 n1 _ _) n1 _ _, own_far (own_far HO.out.2 n2 _ _) n2 _ _⟩
    · have := hBr
      go_grown
set_option maxHeartbeats 4000000 in
set_option maxRecDepth 100000 in
theorem refput_big (p : Plat) (i : Int) (s : ByteArray) (most : Int) (hbig : 4 < most) (A A' : Option Addr) (n m c d : Nat) (w : World) (HP : PlatPre w A n A' m p) (hn9 : n ≤ 1000) (hm9 : m ≤ 1000) (hg : (getF p i).2.2 = 0) :
    Calls Tryd.prog 29 #[.agg #[.slice A n c, .slice A' m d], .int .i64 i, .string s, .int .i64 most] w (OutDo w.heap.size w (putF p i s most)) := by
  obtain ⟨old, M, far, hm, hM, hB, hM1, hm1, hf1, hf2, hMe, hff⟩ := marks hg
  obtain ⟨hcp, hi0, hin, hi2⟩ := read_pos (get_read hg)
  have hl := (HP.step (Below.refl _ _)).1.1
  have hl' := (HP.step (Below.refl _ _)).2.1
  have h0 : 0 ≤ i := hi0
  have h1 : i < 1000 := by omega
  have HF : Hid (putF p i s most = doN p (i + far) s i M 4) := by
    rw [Hid, putF_do hg, hm]
    dsimp only
    rw [hM, hB, mostN_big hbig]
  have HBD : Hid (bodyAt M i = (i + far, true)) := by unfold Hid bodyAt; rw [hB]; rfl
  have HMC := Lib.hid (mark_cases old)
  have HLEN := Lib.hid (doTo_len (i1 := i + far) (s1 := s) (i2 := i) (s2 := M) hcp)
  rw [hM] at HMC
  generalize hr : getF p i = r at *
  have HR := Lib.hid hr
  obtain ⟨t, ok, er⟩ := r
  dsimp only at hg
  subst hg
  have HR2 := Lib.hid hm
  generalize hf : putF p i s most = rf at HF ⊢
  have HL := Lib.hid (And.intro hl hl')
  clear hr hcp hin hi2 hf hm hM hB hM1 hm1 hf1 hf2 hMe hff hi0 hl hl'
  go_enter Tryd.func29, Tryd.ntmps29
  go_wp2_with fail
  refine (refget_any p i A A' n m c d _ (HP.step (by go_grown)) hn9 hm9).mono ?_
  rintro e w1 ⟨rfl, hb1⟩
  rw [HR.out]
  have hX := ((Blk.new w _ _).alloc _).below hb1 (by simp; omega)
  have hY := (Blk.new_at (g := w.heap.size + 1) (by simp) _ _).below hb1 (by simp)
  have hB1 : Below w.heap.size w w1 := Below.trans (by go_grown) (hb1.mono (by simp; omega))
  have x0 := hX.cells 0 _ rfl
  have x1 := hX.cells 1 _ rfl
  simp only [List.getElem_toArray, List.getElem_cons_zero, List.getElem_cons_succ] at x0 x1
  clear hb1
  have HER : Hid (∀ (k : Nat) (q1 : Plat) (er : Int), k < 4 → doTo p (i + far) s i M (k + 1) = (q1, er) → er ≠ 0 → rf = (noPlat, false, er)) := fun k q1 er hk h1 h2 => by rw [HF.out]; exact doN_bad hk h1 h2
  have HOK : Hid (∀ q : Plat, doTo p (i + far) s i M 4 = (q, 0) → rf = (q, decide (4 = 4), 0)) := fun q h => by rw [HF.out]; exact doN_ok h
  clear HF
  go_wp2_with fail
  refine (refread_any p i A A' n m c d _ (HP.step hB1) (by omega) (by omega)).mono ?_
  rintro e w2 ⟨rfl, hb2⟩
  rw [HR2.out]
  have hX2 := hX.below hb2 hX.lt
  have hY2 := hY.below hb2 hY.lt
  have hB2 := hB1.trans (hb2.mono hB1.size)
  clear hb2 hB1 hX hY x0 x1
  dsimp only
  go_upto_if 45 with (fail)
  go_cut [16] from 22 to 69 (fun s16 wx => s16 = .string M ∧ w2 = wx)
  case first =>
    go_wp2_with fail
    · have hq2 : (old.toList == [48]) = true := by assumption
      go_meet
      refine ⟨?_, rfl⟩
      rcases HMC.out with ⟨hq, hM⟩ | ⟨hq, hM⟩
      · rw [hM]
      · simp [hq] at hq2
    · have hq2 : (old.toList == [48]) = false := by assumption
      go_meet
      refine ⟨?_, rfl⟩
      rcases HMC.out with ⟨hq, hM⟩ | ⟨hq, hM⟩
      · simp [hq] at hq2
      · rw [hM]
  case rest =>
  obtain ⟨rfl, rfl⟩ := hcut
  have x0 := hX2.cells 0 _ rfl
  have x1 := hX2.cells 1 _ rfl
  simp only [List.getElem_toArray, List.getElem_cons_zero, List.getElem_cons_succ] at x0 x1
  go_wp2_with fail
  refine (own13_any p A A' n m c d _ (HP.step hB2) hn9 hm9).mono ?_
  rintro e w3 ⟨v, rfl, ⟨A3, c3, A3', c3', rfl, ho1, ho2⟩, hb3⟩
  have hY3 := hY2.below hb3 hY2.lt
  have hB3 := hB2.trans (hb3.mono hB2.size)
  have HO3 := Lib.hid (And.intro (own_base (base' := w.heap.size) ho1 hB2.size) (own_base (base' := w.heap.size) ho2 hB2.size))
  have hz3 := hb3.size
  have hyl3 := hY3.lt
  clear hb3 hB2 hX2 hY2 x0 x1 ho1 ho2
  go_wp2_with fail
  have hX0 : Blk (w3.alloc (.cells #[.slice A3 p.sectors.length c3, .slice A3' p.cache.length c3'] 25)) w3.heap.size 25 #[.slice A3 p.sectors.length c3, .slice A3' p.cache.length c3'] := Blk.new _ _ _
  have hY0 := hY3.alloc (.cells #[.slice A3 p.sectors.length c3, .slice A3' p.cache.length c3'] 25)
  go_loopw [18] (fun iv wr => ∃ (k : Nat) (q : Plat) (A : Option Addr) (c : Nat) (A' : Option Addr) (c' : Nat), k ≤ 4 ∧ iv = .int .i64 k ∧ Hid (doTo p (i + far) s i M k = (q, 0)) ∧ Below w.heap.size w wr ∧ Blk wr w3.heap.size 25 #[.slice A q.sectors.length c, .slice A' q.cache.length c'] ∧ Blk wr (w.heap.size + 1) 25 #[.slice none 0 0, .slice none 0 0] ∧ Hid (wr.ownsRow w.heap.size 9 1 (.slice A q.sectors.length c) q.sectors.length (flat encS q.sectors) ∧ wr.ownsRow w.heap.size 52 2 (.slice A' q.cache.length c') q.cache.length (flat encP q.cache))) (fun iv _ => 4 - (intOf iv).toNat)
  case atStart => exact ⟨0, p, A3, c3, A3', c3', Nat.zero_le _, rfl, rfl, by have := hB3.size; go_grown, hX0, hY0, ⟨HO3.out.1.alloc _, HO3.out.2.alloc _⟩⟩
  case round =>
  clear hX0 hY0 hY3
  obtain ⟨k, q, A, c, A', c', hk, rfl, HQ, hBr, hX, hY, HO⟩ := hrel
  by_cases hlt : k < 4
  · have HST := Lib.hid (doTo_next HQ.out)
    have HPq := rows_pre2 HO.out.1 HO.out.2
    have hlen : q.sectors.length ≤ 1000 ∧ q.cache.length ≤ 1000 := HLEN.out k q (by omega) HQ.out
    obtain ⟨hq1, hq2⟩ := hlen
    have x0 := hX.cells 0 _ rfl
    have x1 := hX.cells 1 _ rfl
    simp only [List.getElem_toArray, List.getElem_cons_zero, List.getElem_cons_succ] at x0 x1
    have hzr := hBr.size
    clear HO
    have hkc : k = 0 ∨ k = 1 ∨ k = 2 ∨ k = 3 := by omega
    rcases hkc with rfl | rfl | rfl | rfl

    · go_wp2_with fail
      refine (refdeed0 q i M s far A A' _ _ c c' _ (HPq.step (by go_grown)) (by omega) (by omega) h0 h1 HBD.out).mono ?_
      rintro e w5 ⟨v, rfl, ⟨A5, c5, A5', c5', rfl, ho1, ho2⟩, hb5⟩
      generalize hcl : deedF (i + far) s i M 0 q = R at HST ho1 ho2 ⊢
      clear hcl
      obtain ⟨q1, er⟩ := R
      dsimp only at ho1 ho2 ⊢
      have hX5 := hX.below hb5 hX.lt
      have hY5 := hY.below hb5 hY.lt
      have hB5 := hBr.trans (hb5.mono hBr.size)
      have ho1 := own_base (base' := w.heap.size) ho1 (by have := hBr.size; omega)
      have ho2 := own_base (base' := w.heap.size) ho2 (by have := hBr.size; omega)
      have HO5 := Lib.hid (And.intro ho1 ho2)
      have x0 := hX5.cells 0 _ rfl
      have x1 := hX5.cells 1 _ rfl
      have xf := hX5.frozen
      have hxl := hX5.lt
      have y0 := hY5.cells 0 _ rfl
      have y1 := hY5.cells 1 _ rfl
      have yf := hY5.frozen
      have hyl := hY5.lt
      simp only [List.getElem_toArray, List.getElem_cons_zero, List.getElem_cons_succ] at x0 x1 y0 y1
      have HX5 := Lib.hid (And.intro hX5 hY5)
      clear ho1 ho2 hb5 hX hY hBr HPq hX5 hY5
      by_cases her : er = 0
      · subst her
        go_wp2_with fail
        go_roundw
        case rel =>
          refine ⟨0 + 1, q1, A5, c5, A5', c5', by omega, by go_num, HST, ?_, ?_, ?_, ?_⟩
          · have := hB5
            go_grown
          · have := (((HX5.out.1.set_ 0 (.slice A5 q1.sectors.length c5)).set_ 1 (.slice A5' q1.cache.length c5'))).alloc (.cells #[.slice A5 q1.sectors.length c5, .slice A5' q1.cache.length c5'] 25)
            simpa using this
          · exact ((HX5.out.2.far (p := ⟨w3.heap.size, 0, none⟩) (by simp; omega) _).far (p := ⟨w3.heap.size, 1, none⟩) (by simp; omega) _).alloc _
          · have h1 := HO5.out.1
            have h2 := HO5.out.2
            have n1 := own_blk_ne h1 HX5.out.1 (by decide)
            have n2 := own_blk_ne h2 HX5.out.1 (by decide)
            exact ⟨(own_far (own_far h1 n1 _ _) n1 _ _).alloc _, (own_far (own_far h2 n2 _ _) n2 _ _).alloc _⟩
        case measure => simp [intOf] <;> omega
      · have t1 : (er != 0) = true := by simpa using her
        have HE := Lib.hid (HER.out 0 q1 er (by omega) HST her)
        clear her
        go_wp2_with (with_reducible refine end_at ?_)
        refine end_ret (v := .tuple #[.agg #[.slice none 0 0, .slice none 0 0], .bool false, .int .i64 er]) (by simp [results, Tryd.results29, go_sem, y0, y1, hyl]; try rfl) rfl ?_
        refine ⟨_, by rw [HE.out], ?_, ?_⟩
        · rw [HE.out]; exact ⟨none, 0, none, 0, rfl, World.ownsRow_nil _ _ _ _, World.ownsRow_nil _ _ _ _⟩
        · have := hB5
          go_grown
    · go_wp2_with fail
      refine (refdeed1 q i M s far A A' _ _ c c' _ (HPq.step (by go_grown)) (by omega) (by omega) h0 h1 HBD.out).mono ?_
      rintro e w5 ⟨v, rfl, ⟨A5, c5, A5', c5', rfl, ho1, ho2⟩, hb5⟩
      generalize hcl : deedF (i + far) s i M 1 q = R at HST ho1 ho2 ⊢
      clear hcl
      obtain ⟨q1, er⟩ := R
      dsimp only at ho1 ho2 ⊢
      have hX5 := hX.below hb5 hX.lt
      have hY5 := hY.below hb5 hY.lt
      have hB5 := hBr.trans (hb5.mono hBr.size)
      have ho1 := own_base (base' := w.heap.size) ho1 (by have := hBr.size; omega)
      have ho2 := own_base (base' := w.heap.size) ho2 (by have := hBr.size; omega)
      have HO5 := Lib.hid (And.intro ho1 ho2)
      have x0 := hX5.cells 0 _ rfl
      have x1 := hX5.cells 1 _ rfl
      have xf := hX5.frozen
      have hxl := hX5.lt
      have y0 := hY5.cells 0 _ rfl
      have y1 := hY5.cells 1 _ rfl
      have yf := hY5.frozen
      have hyl := hY5.lt
      simp only [List.getElem_toArray, List.getElem_cons_zero, List.getElem_cons_succ] at x0 x1 y0 y1
      have HX5 := Lib.hid (And.intro hX5 hY5)
      clear ho1 ho2 hb5 hX hY hBr HPq hX5 hY5
      by_cases her : er = 0
      · subst her
        go_wp2_with fail
        go_roundw
        case rel =>
          refine ⟨1 + 1, q1, A5, c5, A5', c5', by omega, by go_num, HST, ?_, ?_, ?_, ?_⟩
          · have := hB5
            go_grown
          · have := (((HX5.out.1.set_ 0 (.slice A5 q1.sectors.length c5)).set_ 1 (.slice A5' q1.cache.length c5'))).alloc (.cells #[.slice A5 q1.sectors.length c5, .slice A5' q1.cache.length c5'] 25)
            simpa using this
          · exact ((HX5.out.2.far (p := ⟨w3.heap.size, 0, none⟩) (by simp; omega) _).far (p := ⟨w3.heap.size, 1, none⟩) (by simp; omega) _).alloc _
          · have h1 := HO5.out.1
            have h2 := HO5.out.2
            have n1 := own_blk_ne h1 HX5.out.1 (by decide)
            have n2 := own_blk_ne h2 HX5.out.1 (by decide)
            exact ⟨(own_far (own_far h1 n1 _ _) n1 _ _).alloc _, (own_far (own_far h2 n2 _ _) n2 _ _).alloc _⟩
        case measure => simp [intOf] <;> omega
      · have t1 : (er != 0) = true := by simpa using her
        have HE := Lib.hid (HER.out 1 q1 er (by omega) HST her)
        clear her
        go_wp2_with (with_reducible refine end_at ?_)
        refine end_ret (v := .tuple #[.agg #[.slice none 0 0, .slice none 0 0], .bool false, .int .i64 er]) (by simp [results, Tryd.results29, go_sem, y0, y1, hyl]; try rfl) rfl ?_
        refine ⟨_, by rw [HE.out], ?_, ?_⟩
        · rw [HE.out]; exact ⟨none, 0, none, 0, rfl, World.ownsRow_nil _ _ _ _, World.ownsRow_nil _ _ _ _⟩
        · have := hB5
          go_grown
    · go_wp2_with fail
      refine (refdeed2 q i M s far A A' _ _ c c' _ (HPq.step (by go_grown)) (by omega) (by omega) h0 h1 HBD.out).mono ?_
      rintro e w5 ⟨v, rfl, ⟨A5, c5, A5', c5', rfl, ho1, ho2⟩, hb5⟩
      generalize hcl : deedF (i + far) s i M 2 q = R at HST ho1 ho2 ⊢
      clear hcl
      obtain ⟨q1, er⟩ := R
      dsimp only at ho1 ho2 ⊢
      have hX5 := hX.below hb5 hX.lt
      have hY5 := hY.below hb5 hY.lt
      have hB5 := hBr.trans (hb5.mono hBr.size)
      have ho1 := own_base (base' := w.heap.size) ho1 (by have := hBr.size; omega)
      have ho2 := own_base (base' := w.heap.size) ho2 (by have := hBr.size; omega)
      have HO5 := Lib.hid (And.intro ho1 ho2)
      have x0 := hX5.cells 0 _ rfl
      have x1 := hX5.cells 1 _ rfl
      have xf := hX5.frozen
      have hxl := hX5.lt
      have y0 := hY5.cells 0 _ rfl
      have y1 := hY5.cells 1 _ rfl
      have yf := hY5.frozen
      have hyl := hY5.lt
      simp only [List.getElem_toArray, List.getElem_cons_zero, List.getElem_cons_succ] at x0 x1 y0 y1
      have HX5 := Lib.hid (And.intro hX5 hY5)
      clear ho1 ho2 hb5 hX hY hBr HPq hX5 hY5
      by_cases her : er = 0
      · subst her
        go_wp2_with fail
        go_roundw
        case rel =>
          refine ⟨2 + 1, q1, A5, c5, A5', c5', by omega, by go_num, HST, ?_, ?_, ?_, ?_⟩
          · have := hB5
            go_grown
          · have := (((HX5.out.1.set_ 0 (.slice A5 q1.sectors.length c5)).set_ 1 (.slice A5' q1.cache.length c5'))).alloc (.cells #[.slice A5 q1.sectors.length c5, .slice A5' q1.cache.length c5'] 25)
            simpa using this
          · exact ((HX5.out.2.far (p := ⟨w3.heap.size, 0, none⟩) (by simp; omega) _).far (p := ⟨w3.heap.size, 1, none⟩) (by simp; omega) _).alloc _
          · have h1 := HO5.out.1
            have h2 := HO5.out.2
            have n1 := own_blk_ne h1 HX5.out.1 (by decide)
            have n2 := own_blk_ne h2 HX5.out.1 (by decide)
            exact ⟨(own_far (own_far h1 n1 _ _) n1 _ _).alloc _, (own_far (own_far h2 n2 _ _) n2 _ _).alloc _⟩
        case measure => simp [intOf] <;> omega
      · have t1 : (er != 0) = true := by simpa using her
        have HE := Lib.hid (HER.out 2 q1 er (by omega) HST her)
        clear her
        go_wp2_with (with_reducible refine end_at ?_)
        refine end_ret (v := .tuple #[.agg #[.slice none 0 0, .slice none 0 0], .bool false, .int .i64 er]) (by simp [results, Tryd.results29, go_sem, y0, y1, hyl]; try rfl) rfl ?_
        refine ⟨_, by rw [HE.out], ?_, ?_⟩
        · rw [HE.out]; exact ⟨none, 0, none, 0, rfl, World.ownsRow_nil _ _ _ _, World.ownsRow_nil _ _ _ _⟩
        · have := hB5
          go_grown
    · go_wp2_with fail
      refine (refdeed3 q i M s far A A' _ _ c c' _ (HPq.step (by go_grown)) (by omega) (by omega) h0 h1 HBD.out).mono ?_
      rintro e w5 ⟨v, rfl, ⟨A5, c5, A5', c5', rfl, ho1, ho2⟩, hb5⟩
      generalize hcl : deedF (i + far) s i M 3 q = R at HST ho1 ho2 ⊢
      clear hcl
      obtain ⟨q1, er⟩ := R
      dsimp only at ho1 ho2 ⊢
      have hX5 := hX.below hb5 hX.lt
      have hY5 := hY.below hb5 hY.lt
      have hB5 := hBr.trans (hb5.mono hBr.size)
      have ho1 := own_base (base' := w.heap.size) ho1 (by have := hBr.size; omega)
      have ho2 := own_base (base' := w.heap.size) ho2 (by have := hBr.size; omega)
      have HO5 := Lib.hid (And.intro ho1 ho2)
      have x0 := hX5.cells 0 _ rfl
      have x1 := hX5.cells 1 _ rfl
      have xf := hX5.frozen
      have hxl := hX5.lt
      have y0 := hY5.cells 0 _ rfl
      have y1 := hY5.cells 1 _ rfl
      have yf := hY5.frozen
      have hyl := hY5.lt
      simp only [List.getElem_toArray, List.getElem_cons_zero, List.getElem_cons_succ] at x0 x1 y0 y1
      have HX5 := Lib.hid (And.intro hX5 hY5)
      clear ho1 ho2 hb5 hX hY hBr HPq hX5 hY5
      by_cases her : er = 0
      · subst her
        go_wp2_with fail
        go_roundw
        case rel =>
          refine ⟨3 + 1, q1, A5, c5, A5', c5', by omega, by go_num, HST, ?_, ?_, ?_, ?_⟩
          · have := hB5
            go_grown
          · have := (((HX5.out.1.set_ 0 (.slice A5 q1.sectors.length c5)).set_ 1 (.slice A5' q1.cache.length c5'))).alloc (.cells #[.slice A5 q1.sectors.length c5, .slice A5' q1.cache.length c5'] 25)
            simpa using this
          · exact ((HX5.out.2.far (p := ⟨w3.heap.size, 0, none⟩) (by simp; omega) _).far (p := ⟨w3.heap.size, 1, none⟩) (by simp; omega) _).alloc _
          · have h1 := HO5.out.1
            have h2 := HO5.out.2
            have n1 := own_blk_ne h1 HX5.out.1 (by decide)
            have n2 := own_blk_ne h2 HX5.out.1 (by decide)
            exact ⟨(own_far (own_far h1 n1 _ _) n1 _ _).alloc _, (own_far (own_far h2 n2 _ _) n2 _ _).alloc _⟩
        case measure => simp [intOf] <;> omega
      · have t1 : (er != 0) = true := by simpa using her
        have HE := Lib.hid (HER.out 3 q1 er (by omega) HST her)
        clear her
        go_wp2_with (with_reducible refine end_at ?_)
        refine end_ret (v := .tuple #[.agg #[.slice none 0 0, .slice none 0 0], .bool false, .int .i64 er]) (by simp [results, Tryd.results29, go_sem, y0, y1, hyl]; try rfl) rfl ?_
        refine ⟨_, by rw [HE.out], ?_, ?_⟩
        · rw [HE.out]; exact ⟨none, 0, none, 0, rfl, World.ownsRow_nil _ _ _ _, World.ownsRow_nil _ _ _ _⟩
        · have := hB5
          go_grown
  · obtain rfl : k = 4 := by omega
    have HE := Lib.hid (HOK.out q HQ.out)
    have x0 := hX.cells 0 _ rfl
    have x1 := hX.cells 1 _ rfl
    have hxl := hX.lt
    have y0 := hY.cells 0 _ rfl
    have y1 := hY.cells 1 _ rfl
    have yf := hY.frozen
    have hyl := hY.lt
    simp only [List.getElem_toArray, List.getElem_cons_zero, List.getElem_cons_succ] at x0 x1 y0 y1
    have n1 := own_blk_ne HO.out.1 hY (by decide)
    have n2 := own_blk_ne HO.out.2 hY (by decide)
    clear hX hY
    go_wp2_with (with_reducible refine end_at ?_)
    refine end_ret (v := .tuple #[.agg #[.slice A q.sectors.length c, .slice A' q.cache.length c'], .bool true, .int .i64 0]) (by simp [results, Tryd.results29, go_sem, y0, y1]; try rfl) rfl ?_
    refine ⟨.agg #[.slice A q.sectors.length c, .slice A' q.cache.length c'], by (rw [HE.out]; simp), ?_, ?_⟩
    · rw [HE.out]; exact ⟨A, c, A', c', rfl, own_far (own_far HO.out.1 n1 _ _) n1 _ _, own_far (own_far HO.out.2 n2 _ _) n2 _ _⟩
    · have := hBr
      go_grown

theorem refput_any (p : Plat) (i : Int) (s : ByteArray) (most : Int) (A A' : Option Addr) (n m c d : Nat) (w : World) (hP : PlatAt w w.heap.size A n A' m p) (hn9 : n ≤ 1000) (hm9 : m ≤ 1000) :
    Calls Tryd.prog 29 #[.agg #[.slice A n c, .slice A' m d], .int .i64 i, .string s, .int .i64 most] w (OutDo w.heap.size w (putF p i s most)) := by
  by_cases hg : (getF p i).2.2 = 0
  · by_cases h0 : most < 0
    · exact refput_neg p i s most h0 A A' n m c d w hP.pre hn9 hm9 hg
    · by_cases h4 : 4 < most
      · exact refput_big p i s most h4 A A' n m c d w hP.pre hn9 hm9 hg
      · obtain ⟨N, rfl⟩ := Int.eq_ofNat_of_zero_le (show 0 ≤ most by omega)
        exact refput_in p i s N (by omega) A A' n m c d w hP.pre hn9 hm9 hg
  · exact refput_bad p i s most A A' n m c d w hP.pre hn9 hm9 hg
end Go.Proofs.YtefodifmfjpnlaaDoor
