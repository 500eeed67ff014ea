/- the reference's Step. -/
import Derived.Test.YtkaaicmadknjcaaDoorRefF
import Derived.Test.YtkaaicmadknjcaaDoorOrder
set_option linter.unusedVariables false
set_option linter.unusedSimpArgs false
namespace Go.Proofs.YtkaaicmadknjcaaDoor
open Go.RowKit
theorem keep15 {w5 w' : World} {g : Nat} {t : TypeId} {A B C D E F G H : Nat} (h : Blk w5 g t #[.int .i64 A, .int .i64 B, .int .i64 C, .int .i64 D, .int .i64 E, .int .i64 F, .int .i64 G, .int .i64 H]) (hb : Below w5.heap.size w5 w') :
    w'.cell? ⟨g, 1, none⟩ = some (.int .i64 B) ∧ w'.cell? ⟨g, 2, none⟩ = some (.int .i64 C) ∧ w'.cell? ⟨g, 3, none⟩ = some (.int .i64 D) ∧ w'.cell? ⟨g, 5, none⟩ = some (.int .i64 F) ∧ w'.cell? ⟨g, 6, none⟩ = some (.int .i64 G) :=
  ⟨blk_keep h hb rfl, blk_keep h hb rfl, blk_keep h hb rfl, blk_keep h hb rfl, blk_keep h hb rfl⟩
set_option maxHeartbeats 2000000 in
set_option maxRecDepth 100000 in
theorem rstep_in (a b c d e f g h : Nat) (s : ByteArray) (w : World) (hs : s.size = 64) (hok : S8.ok ⟨a, b, c, d, e, f, g, h⟩) :
    Calls Tryd.prog 23 #[.agg #[.int .i64 a, .int .i64 b, .int .i64 c, .int .i64 d, .int .i64 e, .int .i64 f, .int .i64 g, .int .i64 h], .string s] w fun r w' => r = .returned (.tuple #[.agg ((ints (stepS ⟨a, b, c, d, e, f, g, h⟩ s)).map vI).toArray, .bool true]) ∧ Below w.heap.size w w' := by
  have HS := Lib.hid hs
  have HOK := Lib.hid hok
  have HI := Lib.hid (words_is (L := [a, b, c, d, e, f, g, h]) hok)
  have hlen : (s.size : Int) = 64 := by omega
  clear hs hok
  go_enter Tryd.func23, Tryd.ntmps23
  go_wp2_with fail
  refine (rall_any (ints [a, b, c, d, e, f, g, h]) _ 8 8 _ (slr_newT [a, b, c, d, e, f, g, h] ((Blk.new w _ _).alloc _) (by simp; omega)) (by omega) (by omega)).mono ?_
  rintro r w1 ⟨rfl, rfl⟩
  rw [HI.out]
  go_wp2_with fail
  refine (rspread_any s _ HS.out).mono ?_
  rintro r w2 ⟨A6, c6, rfl, hR, hb2⟩
  have hA2 := ((Blk.new w 22 #[.int .i64 a, .int .i64 b, .int .i64 c, .int .i64 d, .int .i64 e, .int .i64 f, .int .i64 g, .int .i64 h]).alloc (.cells #[.int .i64 0, .int .i64 0, .int .i64 0, .int .i64 0, .int .i64 0, .int .i64 0, .int .i64 0, .int .i64 0] 22)).below hb2 (by simp; omega)
  have hX2 := (Blk.new_at (w := w.alloc (.cells #[.int .i64 a, .int .i64 b, .int .i64 c, .int .i64 d, .int .i64 e, .int .i64 f, .int .i64 g, .int .i64 h] 22)) (g := w.heap.size + 1) (by simp) 22 #[.int .i64 0, .int .i64 0, .int .i64 0, .int .i64 0, .int .i64 0, .int .i64 0, .int .i64 0, .int .i64 0]).below hb2 (by simp)
  have hB2 : Below w.heap.size w w2 := Below.trans (by go_grown) (hb2.mono (by simp; omega))
  have hgr : growTo (cutW s true) 48 = spreadW s := (spreadTo_grown (cutW s true) (by rw [cutW_len, HS.out])).symm
  rw [hgr] at hR
  have hll : (spreadW s).length = 64 := spreadTo_len (l := cutW s true) (by rw [cutW_len, HS.out]) 48
  obtain ⟨g6, hA6, hg6⟩ : ∃ g6, A6 = some ⟨g6, 0, none⟩ ∧ g6 < w2.heap.size := by
    obtain ⟨A0, c0, hv, h1, h2, h3⟩ := own_form hR
    rcases h3 with h0 | ⟨g, e, h4, h5⟩
    · rw [hll] at h0; omega
    · injection hv with hA
      exact ⟨g, by rw [hA, e], h5⟩
  subst hA6
  have HR := Lib.hid hR
  have HLL := Lib.hid hll
  clear hR hb2 hgr hll
  go_wp2_with fail
  refine (rwords_any _).mono ?_
  rintro r w3 ⟨rfl, rfl⟩
  go_wp2_with (first
    | (refine wpList_load_row rfl 22 (.tmp 2) rfl w.heap.size rfl 22 #[.int .i64 a, .int .i64 b, .int .i64 c, .int .i64 d, .int .i64 e, .int .i64 f, .int .i64 g, .int .i64 h] (0, 0) (.array 8 3) (hA2.alloc _) (by kernel_rfl) rfl (by kernel_rfl) ?_)
    | (refine wpList_store_row rfl 22 (.tmp 8) (.tmp 29) rfl (w2.heap.size + 1) #[.int .i64 a, .int .i64 b, .int .i64 c, .int .i64 d, .int .i64 e, .int .i64 f, .int .i64 g, .int .i64 h] rfl rfl 22 #[.int .i64 0, .int .i64 0, .int .i64 0, .int .i64 0, .int .i64 0, .int .i64 0, .int .i64 0, .int .i64 0] (Blk.new_at (by simp) _ _) (by kernel_rfl) (by rfl) (by simp [Value.oneCell']) ?_; rw [show w2.heap.size + 1 = (w2.alloc (.cells ((ints K64).map vI).toArray 3)).heap.size by simp, World.setRow_alloc_new]))
  have HA2 := Lib.hid hA2
  have HX2 := Lib.hid hX2
  have hsz := hB2.size
  have h2s : w.heap.size + 2 ≤ w2.heap.size := by have := hX2.lt; omega
  have HX8 : Hid (∀ (k x : Nat), (spreadW s)[k]? = some x → ∀ W, Below w2.heap.size w2 W → W.cell? ⟨g6, k, none⟩ = some (.int .i64 x)) := Lib.hid (fun k x hx W hW => (hW.cell (p := ⟨g6, k, none⟩) hg6).trans (irow_cell HR.out HLL.out hx))
  clear hA2 hX2 HR
  go_loopw [9] (fun v wr => ∃ (n : Nat) (S : S8), n ≤ 64 ∧ v = .int .i64 n ∧ Hid (turnsTo (spreadW s) ⟨a, b, c, d, e, f, g, h⟩ n = S) ∧ Below w2.heap.size w2 wr ∧ Hid (Blk wr w2.heap.size 3 ((ints K64).map vI).toArray) ∧ Hid (Blk wr (w2.heap.size + 1) 22 #[.int .i64 S.a, .int .i64 S.b, .int .i64 S.c, .int .i64 S.d, .int .i64 S.e, .int .i64 S.f, .int .i64 S.g, .int .i64 S.h])) (fun v _ => 64 - (intOf v).toNat)
  case atStart => exact ⟨0, ⟨a, b, c, d, e, f, g, h⟩, by omega, rfl, rfl, by go_grown, (Blk.new _ _ _).alloc _, Blk.new_at (by simp) _ _⟩
  case round =>
    obtain ⟨n, S, hn, rfl, HTn, hBr, HT, HV⟩ := hrel
    have hS := turnsTo_ok (s := ⟨a, b, c, d, e, f, g, h⟩) HOK.out (spreadW s) n
    rw [HTn.out] at hS
    by_cases hlt : n < 64
    · obtain ⟨A, B, C, D, E, F, G, H⟩ := S
      have v0 := HV.out.cells 0 _ rfl
      have v4 := HV.out.cells 4 _ rfl
      have v5 := HV.out.cells 5 _ rfl
      have v6 := HV.out.cells 6 _ rfl
      simp only [List.getElem_toArray, List.getElem_cons_zero, List.getElem_cons_succ] at v0 v4 v5 v6
      obtain ⟨kk, hkk⟩ : ∃ k, K64[n]? = some k := ⟨_, List.getElem?_eq_getElem (by rw [K64_len]; exact hlt)⟩
      have hkk2 : kk < 4294967296 := (show words K64 by unfold words; decide) kk (List.mem_of_getElem? hkk)
      obtain ⟨x, hx⟩ : ∃ x, (spreadW s)[n]? = some x := ⟨_, List.getElem?_eq_getElem (by rw [HLL.out]; exact hlt)⟩
      have hx2 : x < 4294967296 := spreadTo_words (cutW_words s true) 48 x (List.mem_of_getElem? hx)
      have HNew : Hid (turnsTo (spreadW s) ⟨a, b, c, d, e, f, g, h⟩ (n + 1) = turnS ⟨A, B, C, D, E, F, G, H⟩ kk x) := Lib.hid (by rw [turnsTo, HTn.out, List.getD_eq_getElem?_getD, List.getD_eq_getElem?_getD, hkk, hx]; rfl)
      have HK : Hid (((ints K64).map vI).toArray[n]? = some (.int .i64 kk)) := Lib.hid (by rw [List.getElem?_toArray, List.getElem?_map, ints_get hkk]; rfl)
      have HTx := Lib.hid hx
      have hS' : ∀ x ∈ (S8.mk A B C D E F G H).list, x < 4294967296 := hS
      simp only [S8.list, List.mem_cons, List.not_mem_nil, or_false, forall_eq_or_imp, forall_eq] at hS'
      obtain ⟨hA, hB, hC, hD, hE, hF, hGg, hH⟩ := hS'
      obtain ⟨e1, he1, e1l⟩ := rotl_get E 26 hE
      obtain ⟨e2, he2, e2l⟩ := rotl_get E 21 hE
      obtain ⟨e3, he3, e3l⟩ := rotl_get E 7 hE
      obtain ⟨eX, heX, eXl⟩ := xor_get [e1, e2, e3] (words3 e1l e2l e3l)
      obtain ⟨ne, hne, nel, hne2, hne3⟩ := sub_get E hE
      obtain ⟨f1, hf1, f1l⟩ := and_get E F hE
      obtain ⟨f2, hf2, f2l⟩ := and_get ne G nel
      obtain ⟨fX, hfX, fXl⟩ := xor_get [f1, f2] (words2 f1l f2l)
      obtain ⟨P, hP, Pl⟩ := sum_get [H, eX, fX, kk, x]
      obtain ⟨a1, ha1, a1l⟩ := rotl_get A 30 hA
      obtain ⟨a2, ha2, a2l⟩ := rotl_get A 19 hA
      obtain ⟨a3, ha3, a3l⟩ := rotl_get A 10 hA
      obtain ⟨aX, haX, aXl⟩ := xor_get [a1, a2, a3] (words3 a1l a2l a3l)
      obtain ⟨m1, hm1, m1l⟩ := and_get A B hA
      obtain ⟨m2, hm2, m2l⟩ := and_get A C hA
      obtain ⟨m3, hm3, m3l⟩ := and_get B C hB
      obtain ⟨mX, hmX, mXl⟩ := xor_get [m1, m2, m3] (words3 m1l m2l m3l)
      obtain ⟨Q, hQ, Ql⟩ := sum_get [aX, mX]
      obtain ⟨U, hU, Ul⟩ := sum_get [P, Q]
      obtain ⟨V, hV, Vl⟩ := sum_get [D, P]
      have HqW : Hid (qW ⟨A, B, C, D, E, F, G, H⟩ = Q) := Lib.hid (by simp only [qW]; rw [ha1, ha2, ha3, haX, hm1, hm2, hm3, hmX, hQ])
      have HA := Lib.hid (And.intro ha1 (And.intro ha2 (And.intro ha3 haX)))
      have HM := Lib.hid (And.intro hm1 (And.intro hm2 (And.intro hm3 hmX)))
      have HQ := Lib.hid (And.intro hQ (And.intro hU hV))
      have HAw := Lib.hid (words3 a1l a2l a3l)
      have HMw := Lib.hid (words3 m1l m2l m3l)
      have HQw := Lib.hid (And.intro (words2 aXl mXl) (And.intro (words2 Pl Ql) (words2 hD Pl)))
      have HpW : Hid (pW ⟨A, B, C, D, E, F, G, H⟩ kk x = P) := Lib.hid (by simp only [pW]; rw [he1, he2, he3, heX, hne, hf1, hf2, hfX, hP])
      have HE := Lib.hid (And.intro he1 (And.intro he2 (And.intro he3 heX)))
      have HF := Lib.hid (And.intro hf1 (And.intro hf2 (And.intro hfX (And.intro f1l f2l))))
      have HP := Lib.hid hP
      have HEw := Lib.hid (words3 e1l e2l e3l)
      have HPw := Lib.hid (words5 hH eXl fXl hkk2 hx2)
      have n0 : (0 : Int) ≤ n := by omega
      have n1 : (n : Int) < 64 := by omega
      clear hkk hx he1 he2 he3 heX hne hf1 hf2 hfX hP e1l e2l e3l eXl f1l f2l fXl hS ha1 ha2 ha3 haX hm1 hm2 hm3 hmX hQ hU hV a1l a2l a3l aXl m1l m2l m3l mXl Ql Ul Vl
      go_wp2_with fail
      clear v0 v4
      go_region_held3 (fun w' => w'.cell? ⟨w2.heap.size + 1, 5, none⟩ = some (.int .i64 F) ∧ w'.cell? ⟨w2.heap.size + 1, 6, none⟩ = some (.int .i64 G)) (go_keep)
        (first
          | (go_at_call 87; with_reducible refine (rboth E F f1 _ hE hF HF.out.1).mono ?_; rintro r w3 ⟨rfl, rfl⟩)
          | (go_at_call 87; with_reducible refine (rboth ne G f2 _ nel hGg HF.out.2.1).mono ?_; rintro r w3 ⟨rfl, rfl⟩)
          | (go_at_call 86; with_reducible refine (runlike f1 f2 fX _ HF.out.2.2.2.1 HF.out.2.2.2.2 HF.out.2.2.1).mono ?_; rintro r w3 ⟨rfl, rfl⟩))
      go_wp2_with fail
      have v1 := HV.out.cells 1 _ rfl
      have v2 := HV.out.cells 2 _ rfl
      simp only [List.getElem_toArray, List.getElem_cons_zero, List.getElem_cons_succ] at v1 v2
      go_region_held3 (fun w' => w'.cell? ⟨w2.heap.size + 1, 1, none⟩ = some (.int .i64 B) ∧ w'.cell? ⟨w2.heap.size + 1, 2, none⟩ = some (.int .i64 C)) (go_keep)
        (first
          | (go_at_call 87; with_reducible refine (rboth A B m1 _ hA hB HM.out.1).mono ?_; rintro r w3 ⟨rfl, rfl⟩)
          | (go_at_call 87; with_reducible refine (rboth A C m2 _ hA hC HM.out.2.1).mono ?_; rintro r w3 ⟨rfl, rfl⟩)
          | (go_at_call 87; with_reducible refine (rboth B C m3 _ hB hC HM.out.2.2.1).mono ?_; rintro r w3 ⟨rfl, rfl⟩)
          | (go_at_call 88; with_reducible refine (rthree m1 m2 m3 mX _ HMw.out HM.out.2.2.2).mono ?_; rintro r w3 ⟨rfl, rfl⟩))
      clear v1 v2 v5 v6
      go_wp2_with fail
      have v7 := HV.out.cells 7 _ rfl
      simp only [List.getElem_toArray, List.getElem_cons_zero, List.getElem_cons_succ] at v7
      have gk := HT.out.cells n _ HK.out
      have gx := HX8.out n x HTx.out wr hBr
      go_region_held3 (fun w' => w'.cell? ⟨w2.heap.size + 1, 7, none⟩ = some (.int .i64 H) ∧ w'.cell? ⟨w2.heap.size, n, none⟩ = some (.int .i64 kk) ∧ w'.cell? ⟨g6, n, none⟩ = some (.int .i64 x)) (go_keep)
        (first
          | (go_at_call 90; with_reducible refine (rback6 E e1 _ hE HE.out.1).mono ?_; rintro r w3 ⟨rfl, rfl⟩)
          | (go_at_call 90; with_reducible refine (rback11 E e2 _ hE HE.out.2.1).mono ?_; rintro r w3 ⟨rfl, rfl⟩)
          | (go_at_call 90; with_reducible refine (rback25 E e3 _ hE HE.out.2.2.1).mono ?_; rintro r w3 ⟨rfl, rfl⟩)
          | (go_at_call 88; with_reducible refine (rthree e1 e2 e3 eX _ HEw.out HE.out.2.2.2).mono ?_; rintro r w3 ⟨rfl, rfl⟩)
          | (go_at_call 89; with_reducible refine Calls.mono (radd5 H eX fX kk x P _ _ ?_ ?_ HPw.out HP.out) ?_; (focus (simp; done)); (focus ((repeat' (first | (with_reducible refine blk_drew ?_) | (with_reducible refine Blk.new_at ?_ _ _) | (simp; done))); done)); rintro r w3 ⟨rfl, rfl⟩))
      clear v7 gk gx
      go_wp2_with fail
      refine (rback2 A a1 _ hA HA.out.1).mono ?_; rintro r w3 ⟨rfl, rfl⟩
      go_wp2_with fail
      refine (rback13 A a2 _ hA HA.out.2.1).mono ?_; rintro r w3 ⟨rfl, rfl⟩
      go_wp2_with fail
      refine (rback22 A a3 _ hA HA.out.2.2.1).mono ?_; rintro r w3 ⟨rfl, rfl⟩
      go_wp2_with fail
      refine (rthree a1 a2 a3 aX _ HAw.out HA.out.2.2.2).mono ?_; rintro r w3 ⟨rfl, rfl⟩
      go_wp2_with fail
      refine Calls.mono (radd2 aX mX Q _ _ ?_ ?_ HQw.out.1 HQ.out.1) ?_; (focus (simp; done)); (focus ((repeat' (first | (with_reducible refine blk_drew ?_) | (with_reducible refine Blk.new_at ?_ _ _) | (simp; done))); done)); rintro r w3 ⟨rfl, rfl⟩
      go_wp2_with fail
      generalize hW5 : ((wr.alloc (Obj.cells #[Value.int IntKind.i64 H, Value.int IntKind.i64 eX, Value.int IntKind.i64 fX, Value.int IntKind.i64 kk, Value.int IntKind.i64 x] 3)).alloc (Obj.cells #[Value.int IntKind.i64 aX, Value.int IntKind.i64 mX] 3)).drew.drew.drew = w5
      have hb5 : Below wr.heap.size wr w5 := by rw [← hW5]; go_grown
      have HV5 := Lib.hid (HV.out.below hb5 HV.out.lt)
      have HT5 := Lib.hid (HT.out.below hb5 HT.out.lt)
      have hs5 := hb5.size
      clear hW5
      have hS5 : w5.drew.cell? ⟨w2.heap.size + 1, 1, none⟩ = some (.int .i64 B) ∧ w5.drew.cell? ⟨w2.heap.size + 1, 2, none⟩ = some (.int .i64 C) ∧ w5.drew.cell? ⟨w2.heap.size + 1, 3, none⟩ = some (.int .i64 D) ∧ w5.drew.cell? ⟨w2.heap.size + 1, 5, none⟩ = some (.int .i64 F) ∧ w5.drew.cell? ⟨w2.heap.size + 1, 6, none⟩ = some (.int .i64 G) :=
        ⟨HV5.out.cells 1 _ rfl, HV5.out.cells 2 _ rfl, HV5.out.cells 3 _ rfl, HV5.out.cells 5 _ rfl, HV5.out.cells 6 _ rfl⟩
      refine wp_region_Z 20 (fun w' => w'.cell? ⟨w2.heap.size + 1, 1, none⟩ = some (.int .i64 B) ∧ w'.cell? ⟨w2.heap.size + 1, 2, none⟩ = some (.int .i64 C) ∧ w'.cell? ⟨w2.heap.size + 1, 3, none⟩ = some (.int .i64 D) ∧ w'.cell? ⟨w2.heap.size + 1, 5, none⟩ = some (.int .i64 F) ∧ w'.cell? ⟨w2.heap.size + 1, 6, none⟩ = some (.int .i64 G)) (by kernel_rfl) ?_
      -- region 15
      refine wpAnyZ_take (i := 0) (v := ?v1) _ rfl (by kernel_rfl) (by kernel_rfl) (fun _ _ _ h => h) _ _ _ (by kernel_rfl) (by kernel_rfl) (Or.inl ⟨by rfl, ?hy1⟩) (by assumption) ?rest1
      case hy1 => (intro w hSw; (try dsimp only at hSw); go_simp; try with_reducible rfl)
      simp only [Act.put, List.setIfInBounds_toArray, List.set_cons_zero, List.set_cons_succ]
      refine wpAnyZ_take (i := 1) (v := ?v2) _ rfl (by kernel_rfl) (by kernel_rfl) (fun _ _ _ h => h) _ _ _ (by kernel_rfl) (by kernel_rfl) (Or.inl ⟨by rfl, ?hy2⟩) (by assumption) ?rest2
      case hy2 => (intro w hSw; (try dsimp only at hSw); go_simp; try with_reducible rfl)
      simp only [Act.put, List.setIfInBounds_toArray, List.set_cons_zero, List.set_cons_succ]
      refine wpAnyZ_take (i := 4) (v := ?v3) _ rfl (by kernel_rfl) (by kernel_rfl) (fun _ _ _ h => h) _ _ _ (by kernel_rfl) (by kernel_rfl) (Or.inl ⟨by rfl, ?hy3⟩) (by assumption) ?rest3
      case hy3 => (intro w hSw; (try dsimp only at hSw); go_simp; try with_reducible rfl)
      simp only [Act.put, List.setIfInBounds_toArray, List.set_cons_zero, List.set_cons_succ]
      refine wpAnyZ_take (i := 5) (v := ?v4) _ rfl (by kernel_rfl) (by kernel_rfl) (fun _ _ _ h => h) _ _ _ (by kernel_rfl) (by kernel_rfl) (Or.inl ⟨by rfl, ?hy4⟩) (by assumption) ?rest4
      case hy4 => (intro w hSw; (try dsimp only at hSw); go_simp; try with_reducible rfl)
      simp only [Act.put, List.setIfInBounds_toArray, List.set_cons_zero, List.set_cons_succ]
      refine wpAnyZ_take (i := 6) (v := ?v5) _ rfl (by kernel_rfl) (by kernel_rfl) (fun _ _ _ h => h) _ _ _ (by kernel_rfl) (by kernel_rfl) (Or.inl ⟨by rfl, ?hy5⟩) (by assumption) ?rest5
      case hy5 => (intro w hSw; (try dsimp only at hSw); go_simp; try with_reducible rfl)
      simp only [Act.put, List.setIfInBounds_toArray, List.set_cons_zero, List.set_cons_succ]
      refine wpAnyZ_take (i := 7) (v := ?v6) _ rfl (by kernel_rfl) (by kernel_rfl) (fun _ _ _ h => h) _ _ _ (by kernel_rfl) (by kernel_rfl) (Or.inl ⟨by rfl, ?hy6⟩) (by assumption) ?rest6
      case hy6 => (intro w hSw; (try dsimp only at hSw); go_simp; try with_reducible rfl)
      simp only [Act.put, List.setIfInBounds_toArray, List.set_cons_zero, List.set_cons_succ]
      refine wpAnyZ_take (i := 8) (v := ?v7) _ rfl (by kernel_rfl) (by kernel_rfl) (fun _ _ _ h => h) _ _ _ (by kernel_rfl) (by kernel_rfl) (Or.inl ⟨by rfl, ?hy7⟩) (by assumption) ?rest7
      case hy7 => (intro w hSw; (try dsimp only at hSw); go_simp; try with_reducible rfl)
      simp only [Act.put, List.setIfInBounds_toArray, List.set_cons_zero, List.set_cons_succ]
      refine wpAnyZ_take (i := 9) (v := ?v8) _ rfl (by kernel_rfl) (by kernel_rfl) (fun _ _ _ h => h) _ _ _ (by kernel_rfl) (by kernel_rfl) (Or.inl ⟨by rfl, ?hy8⟩) (by assumption) ?rest8
      case hy8 => (intro w hSw; (try dsimp only at hSw); go_simp; try with_reducible rfl)
      simp only [Act.put, List.setIfInBounds_toArray, List.set_cons_zero, List.set_cons_succ]
      refine wpAnyZ_take (i := 10) (v := ?v9) _ rfl (by kernel_rfl) (by kernel_rfl) (fun _ _ _ h => h) _ _ _ (by kernel_rfl) (by kernel_rfl) (Or.inl ⟨by rfl, ?hy9⟩) (by assumption) ?rest9
      case hy9 => (intro w hSw; (try dsimp only at hSw); go_simp; try with_reducible rfl)
      simp only [Act.put, List.setIfInBounds_toArray, List.set_cons_zero, List.set_cons_succ]
      refine wpAnyZ_take (i := 11) (v := ?v10) _ rfl (by kernel_rfl) (by kernel_rfl) (fun _ _ _ h => h) _ _ _ (by kernel_rfl) (by kernel_rfl) (Or.inl ⟨by rfl, ?hy10⟩) (by assumption) ?rest10
      case hy10 => (intro w hSw; (try dsimp only at hSw); go_simp; try with_reducible rfl)
      simp only [Act.put, List.setIfInBounds_toArray, List.set_cons_zero, List.set_cons_succ]
      refine wpAnyZ_take (i := 14) (v := ?v11) _ rfl (by kernel_rfl) (by kernel_rfl) (fun _ _ _ h => h) _ _ _ (by kernel_rfl) (by kernel_rfl) (Or.inl ⟨by rfl, ?hy11⟩) (by assumption) ?rest11
      case hy11 => (intro w hSw; (try dsimp only at hSw); go_simp; try with_reducible rfl)
      simp only [Act.put, List.setIfInBounds_toArray, List.set_cons_zero, List.set_cons_succ]
      refine wpAnyZ_take (i := 15) (v := ?v12) _ rfl (by kernel_rfl) (by kernel_rfl) (fun _ _ _ h => h) _ _ _ (by kernel_rfl) (by kernel_rfl) (Or.inl ⟨by rfl, ?hy12⟩) (by assumption) ?rest12
      case hy12 => (intro w hSw; (try dsimp only at hSw); go_simp; try with_reducible rfl)
      simp only [Act.put, List.setIfInBounds_toArray, List.set_cons_zero, List.set_cons_succ]
      refine wpAnyZ_take (i := 16) (v := ?v13) _ rfl (by kernel_rfl) (by kernel_rfl) (fun _ _ _ h => h) _ _ _ (by kernel_rfl) (by kernel_rfl) (Or.inl ⟨by rfl, ?hy13⟩) (by assumption) ?rest13
      case hy13 => (intro w hSw; (try dsimp only at hSw); go_simp; try with_reducible rfl)
      simp only [Act.put, List.setIfInBounds_toArray, List.set_cons_zero, List.set_cons_succ]
      refine wpAnyZ_take (i := 17) (v := ?v14) _ rfl (by kernel_rfl) (by kernel_rfl) (fun _ _ _ h => h) _ _ _ (by kernel_rfl) (by kernel_rfl) (Or.inl ⟨by rfl, ?hy14⟩) (by assumption) ?rest14
      case hy14 => (intro w hSw; (try dsimp only at hSw); go_simp; try with_reducible rfl)
      simp only [Act.put, List.setIfInBounds_toArray, List.set_cons_zero, List.set_cons_succ]
      refine wpAnyZ_take (i := 18) (v := ?v15) _ rfl (by kernel_rfl) (by kernel_rfl) (fun _ _ _ h => h) _ _ _ (by kernel_rfl) (by kernel_rfl) (Or.inl ⟨by rfl, ?hy15⟩) (by assumption) ?rest15
      case hy15 => (intro w hSw; (try dsimp only at hSw); go_simp; try with_reducible rfl)
      simp only [Act.put, List.setIfInBounds_toArray, List.set_cons_zero, List.set_cons_succ]
      refine wpAnyZ_ready (rs := [2, 12]) (by kernel_rfl) (by simp) ?_
      refine AllReadyZ.cons rfl (by decide) (fun K hK => ?_) ?_
      · try clear hHeld
        go_simp
        refine hK.out _ _ (keep15 HV5.out (by go_grown)) (fun hHeld => ?_)
        clear hK K
        try simp only [Act.put, List.setIfInBounds_toArray, List.set_cons_zero, List.set_cons_succ]
        refine wpAnyZ_ready (rs := [3, 12]) (by kernel_rfl) (by simp) ?_
        refine AllReadyZ.cons rfl (by decide) (fun K hK => ?_) ?_
        · try clear hHeld
          go_simp
          refine Calls.mono (radd2 P Q U _ _ ?_ ?_ HQw.out.2.1 HQ.out.2.1) ?_; (focus (first | (simp; done) | (simp; omega))); (focus ((repeat' (first | (with_reducible refine blk_drew ?_) | (with_reducible refine Blk.new_at ?_ _ _) | (refine Blk.alloc ?_ _) | (simp; done))); done)); rintro r w3 ⟨rfl, rfl⟩
          go_simp
          refine hK.out _ _ (keep15 HV5.out (by go_grown)) (fun hHeld => ?_)
          clear hK K
          try simp only [Act.put, List.setIfInBounds_toArray, List.set_cons_zero, List.set_cons_succ]
          refine wpAnyZ_ready (rs := [12]) (by kernel_rfl) (by simp) ?_
          refine AllReadyZ.cons rfl (by decide) (fun K hK => ?_) AllReadyZ.nil
          try clear hHeld
          go_simp
          refine hK.out _ _ (keep15 HV5.out (by go_grown)) (fun hHeld => ?_)
          clear hK K
          try simp only [Act.put, List.setIfInBounds_toArray, List.set_cons_zero, List.set_cons_succ]
          refine wpAnyZ_ready (rs := [13]) (by kernel_rfl) (by simp) ?_
          refine AllReadyZ.cons rfl (by decide) (fun K hK => ?_) AllReadyZ.nil
          try clear hHeld
          go_simp
          refine Calls.mono (radd2 D P V _ _ ?_ ?_ HQw.out.2.2 HQ.out.2.2) ?_; (focus (first | (simp; done) | (simp; omega))); (focus ((repeat' (first | (with_reducible refine blk_drew ?_) | (with_reducible refine Blk.new_at ?_ _ _) | (refine Blk.alloc ?_ _) | (simp; done))); done)); rintro r w3 ⟨rfl, rfl⟩
          go_simp
          refine hK.out _ _ (keep15 HV5.out (by go_grown)) (fun hHeld => ?_)
          clear hK K
          try simp only [Act.put, List.setIfInBounds_toArray, List.set_cons_zero, List.set_cons_succ]
          refine wpAnyZ_take (i := 19) (v := ?v16) _ rfl (by kernel_rfl) (by kernel_rfl) (fun _ _ _ h => h) _ _ _ (by kernel_rfl) (by kernel_rfl) (Or.inl ⟨by rfl, ?hy16⟩) (by assumption) ?rest16
          case hy16 => (intro w hSw; (try dsimp only at hSw); go_simp; try with_reducible rfl)
          simp only [Act.put, List.setIfInBounds_toArray, List.set_cons_zero, List.set_cons_succ]
          refine wpAnyZ_last (by kernel_rfl) rfl (by kernel_rfl) ?_
          rw [if_pos (by rfl)]
          refine wp_store_row 22 (.tmp 8) (.tmp 111) rfl (w2.heap.size + 1) #[.int .i64 U, .int .i64 A, .int .i64 B, .int .i64 C, .int .i64 V, .int .i64 E, .int .i64 F, .int .i64 G] rfl rfl 22 #[.int .i64 A, .int .i64 B, .int .i64 C, .int .i64 D, .int .i64 E, .int .i64 F, .int .i64 G, .int .i64 H] (HV5.out.below (by go_grown) HV5.out.lt) (by kernel_rfl) (by rfl) (by simp [Value.oneCell']) ?_
          go_wp2_with fail
          go_roundw
          case rel =>
            refine ⟨n + 1, ⟨U, A, B, C, V, E, F, G⟩, by omega, by go_num, Lib.hid (by rw [HNew.out, turnS, HpW.out, HqW.out]; simp only [HQ.out.2.1, HQ.out.2.2]), ?_, ?_, ?_⟩
            · exact below_setRow (by have hBr5 : Below w2.heap.size w2 w5 := hBr.trans (hb5.mono hBr.size); have := hBr5.size; go_grown) (by omega) _
            · exact Lib.hid ((setRow_other _ _ _ _ (by omega)).trans (HT5.out.below (by go_grown) HT5.out.lt))
            · exact Lib.hid (setRow_heap _ _ _ _ _ _ (HV5.out.below (by go_grown) HV5.out.lt))
          case measure => simp [intOf]; omega
        · refine AllReadyZ.cons rfl (by decide) (fun K hK => ?_) AllReadyZ.nil
          try clear hHeld
          go_simp
          refine hK.out _ _ (keep15 HV5.out (by go_grown)) (fun hHeld => ?_)
          clear hK K
          try simp only [Act.put, List.setIfInBounds_toArray, List.set_cons_zero, List.set_cons_succ]
          refine wpAnyZ_ready (rs := [3]) (by kernel_rfl) (by simp) ?_
          refine AllReadyZ.cons rfl (by decide) (fun K hK => ?_) AllReadyZ.nil
          try clear hHeld
          go_simp
          refine Calls.mono (radd2 P Q U _ _ ?_ ?_ HQw.out.2.1 HQ.out.2.1) ?_; (focus (first | (simp; done) | (simp; omega))); (focus ((repeat' (first | (with_reducible refine blk_drew ?_) | (with_reducible refine Blk.new_at ?_ _ _) | (refine Blk.alloc ?_ _) | (simp; done))); done)); rintro r w3 ⟨rfl, rfl⟩
          go_simp
          refine hK.out _ _ (keep15 HV5.out (by go_grown)) (fun hHeld => ?_)
          clear hK K
          try simp only [Act.put, List.setIfInBounds_toArray, List.set_cons_zero, List.set_cons_succ]
          refine wpAnyZ_ready (rs := [13]) (by kernel_rfl) (by simp) ?_
          refine AllReadyZ.cons rfl (by decide) (fun K hK => ?_) AllReadyZ.nil
          try clear hHeld
          go_simp
          refine Calls.mono (radd2 D P V _ _ ?_ ?_ HQw.out.2.2 HQ.out.2.2) ?_; (focus (first | (simp; done) | (simp; omega))); (focus ((repeat' (first | (with_reducible refine blk_drew ?_) | (with_reducible refine Blk.new_at ?_ _ _) | (refine Blk.alloc ?_ _) | (simp; done))); done)); rintro r w3 ⟨rfl, rfl⟩
          go_simp
          refine hK.out _ _ (keep15 HV5.out (by go_grown)) (fun hHeld => ?_)
          clear hK K
          try simp only [Act.put, List.setIfInBounds_toArray, List.set_cons_zero, List.set_cons_succ]
          refine wpAnyZ_take (i := 19) (v := ?v17) _ rfl (by kernel_rfl) (by kernel_rfl) (fun _ _ _ h => h) _ _ _ (by kernel_rfl) (by kernel_rfl) (Or.inl ⟨by rfl, ?hy17⟩) (by assumption) ?rest17
          case hy17 => (intro w hSw; (try dsimp only at hSw); go_simp; try with_reducible rfl)
          simp only [Act.put, List.setIfInBounds_toArray, List.set_cons_zero, List.set_cons_succ]
          refine wpAnyZ_last (by kernel_rfl) rfl (by kernel_rfl) ?_
          rw [if_pos (by rfl)]
          refine wp_store_row 22 (.tmp 8) (.tmp 111) rfl (w2.heap.size + 1) #[.int .i64 U, .int .i64 A, .int .i64 B, .int .i64 C, .int .i64 V, .int .i64 E, .int .i64 F, .int .i64 G] rfl rfl 22 #[.int .i64 A, .int .i64 B, .int .i64 C, .int .i64 D, .int .i64 E, .int .i64 F, .int .i64 G, .int .i64 H] (HV5.out.below (by go_grown) HV5.out.lt) (by kernel_rfl) (by rfl) (by simp [Value.oneCell']) ?_
          go_wp2_with fail
          go_roundw
          case rel =>
            refine ⟨n + 1, ⟨U, A, B, C, V, E, F, G⟩, by omega, by go_num, Lib.hid (by rw [HNew.out, turnS, HpW.out, HqW.out]; simp only [HQ.out.2.1, HQ.out.2.2]), ?_, ?_, ?_⟩
            · exact below_setRow (by have hBr5 : Below w2.heap.size w2 w5 := hBr.trans (hb5.mono hBr.size); have := hBr5.size; go_grown) (by omega) _
            · exact Lib.hid ((setRow_other _ _ _ _ (by omega)).trans (HT5.out.below (by go_grown) HT5.out.lt))
            · exact Lib.hid (setRow_heap _ _ _ _ _ _ (HV5.out.below (by go_grown) HV5.out.lt))
          case measure => simp [intOf]; omega
      · refine AllReadyZ.cons rfl (by decide) (fun K hK => ?_) AllReadyZ.nil
        try clear hHeld
        go_simp
        refine hK.out _ _ (keep15 HV5.out (by go_grown)) (fun hHeld => ?_)
        clear hK K
        try simp only [Act.put, List.setIfInBounds_toArray, List.set_cons_zero, List.set_cons_succ]
        refine wpAnyZ_ready (rs := [2]) (by kernel_rfl) (by simp) ?_
        refine AllReadyZ.cons rfl (by decide) (fun K hK => ?_) AllReadyZ.nil
        try clear hHeld
        go_simp
        refine hK.out _ _ (keep15 HV5.out (by go_grown)) (fun hHeld => ?_)
        clear hK K
        try simp only [Act.put, List.setIfInBounds_toArray, List.set_cons_zero, List.set_cons_succ]
        refine wpAnyZ_ready (rs := [3]) (by kernel_rfl) (by simp) ?_
        refine AllReadyZ.cons rfl (by decide) (fun K hK => ?_) AllReadyZ.nil
        try clear hHeld
        go_simp
        refine Calls.mono (radd2 P Q U _ _ ?_ ?_ HQw.out.2.1 HQ.out.2.1) ?_; (focus (first | (simp; done) | (simp; omega))); (focus ((repeat' (first | (with_reducible refine blk_drew ?_) | (with_reducible refine Blk.new_at ?_ _ _) | (refine Blk.alloc ?_ _) | (simp; done))); done)); rintro r w3 ⟨rfl, rfl⟩
        go_simp
        refine hK.out _ _ (keep15 HV5.out (by go_grown)) (fun hHeld => ?_)
        clear hK K
        try simp only [Act.put, List.setIfInBounds_toArray, List.set_cons_zero, List.set_cons_succ]
        refine wpAnyZ_ready (rs := [13]) (by kernel_rfl) (by simp) ?_
        refine AllReadyZ.cons rfl (by decide) (fun K hK => ?_) AllReadyZ.nil
        try clear hHeld
        go_simp
        refine Calls.mono (radd2 D P V _ _ ?_ ?_ HQw.out.2.2 HQ.out.2.2) ?_; (focus (first | (simp; done) | (simp; omega))); (focus ((repeat' (first | (with_reducible refine blk_drew ?_) | (with_reducible refine Blk.new_at ?_ _ _) | (refine Blk.alloc ?_ _) | (simp; done))); done)); rintro r w3 ⟨rfl, rfl⟩
        go_simp
        refine hK.out _ _ (keep15 HV5.out (by go_grown)) (fun hHeld => ?_)
        clear hK K
        try simp only [Act.put, List.setIfInBounds_toArray, List.set_cons_zero, List.set_cons_succ]
        refine wpAnyZ_take (i := 19) (v := ?v18) _ rfl (by kernel_rfl) (by kernel_rfl) (fun _ _ _ h => h) _ _ _ (by kernel_rfl) (by kernel_rfl) (Or.inl ⟨by rfl, ?hy18⟩) (by assumption) ?rest18
        case hy18 => (intro w hSw; (try dsimp only at hSw); go_simp; try with_reducible rfl)
        simp only [Act.put, List.setIfInBounds_toArray, List.set_cons_zero, List.set_cons_succ]
        refine wpAnyZ_last (by kernel_rfl) rfl (by kernel_rfl) ?_
        rw [if_pos (by rfl)]
        refine wp_store_row 22 (.tmp 8) (.tmp 111) rfl (w2.heap.size + 1) #[.int .i64 U, .int .i64 A, .int .i64 B, .int .i64 C, .int .i64 V, .int .i64 E, .int .i64 F, .int .i64 G] rfl rfl 22 #[.int .i64 A, .int .i64 B, .int .i64 C, .int .i64 D, .int .i64 E, .int .i64 F, .int .i64 G, .int .i64 H] (HV5.out.below (by go_grown) HV5.out.lt) (by kernel_rfl) (by rfl) (by simp [Value.oneCell']) ?_
        go_wp2_with fail
        go_roundw
        case rel =>
          refine ⟨n + 1, ⟨U, A, B, C, V, E, F, G⟩, by omega, by go_num, Lib.hid (by rw [HNew.out, turnS, HpW.out, HqW.out]; simp only [HQ.out.2.1, HQ.out.2.2]), ?_, ?_, ?_⟩
          · exact below_setRow (by have hBr5 : Below w2.heap.size w2 w5 := hBr.trans (hb5.mono hBr.size); have := hBr5.size; go_grown) (by omega) _
          · exact Lib.hid ((setRow_other _ _ _ _ (by omega)).trans (HT5.out.below (by go_grown) HT5.out.lt))
          · exact Lib.hid (setRow_heap _ _ _ _ _ _ (HV5.out.below (by go_grown) HV5.out.lt))
        case measure => simp [intOf]; omega
      -- region 15 ends
    · obtain rfl : n = 64 := by omega
      have HR0 : Hid (Row vI wr (w2.heap.size + 1) 22 (ints (addTo ⟨a, b, c, d, e, f, g, h⟩ S 0))) := Lib.hid HV.out
      have HSr : Hid (∀ W, Below w2.heap.size w2 W → Row vI W w.heap.size 22 (ints (S8.list ⟨a, b, c, d, e, f, g, h⟩))) := Lib.hid (fun W hW => HA2.out.below hW HA2.out.lt)
      have HXr : Hid (∀ W, Below w2.heap.size w2 W → Blk W (w.heap.size + 1) 22 #[.int .i64 0, .int .i64 0, .int .i64 0, .int .i64 0, .int .i64 0, .int .i64 0, .int .i64 0, .int .i64 0]) := Lib.hid (fun W hW => HX2.out.below hW HX2.out.lt)
      have HSw := Lib.hid hS
      have hg7 := HV.out.lt
      clear hS hlt
      obtain ⟨wo, rfl⟩ : ∃ wo : World, wo = wr := ⟨_, rfl⟩
      go_wp2_with fail
      go_loopw [16] (fun v wq => ∃ m : Nat, m ≤ 8 ∧ v = .int .i64 m ∧ Below w2.heap.size w2 wq ∧ Hid (Row vI wq (w2.heap.size + 1) 22 (ints (addTo ⟨a, b, c, d, e, f, g, h⟩ S m)))) (fun v _ => 8 - (intOf v).toNat)
      case atStart => exact ⟨0, by omega, rfl, hBr, HR0⟩
      case round =>
        obtain ⟨m, hm, rfl, hBq, HR⟩ := hrel
        by_cases hlt : m < 8
        · obtain ⟨x, hx⟩ : ∃ x, (S8.list ⟨a, b, c, d, e, f, g, h⟩).getD m 0 = x := ⟨_, rfl⟩
          obtain ⟨y, hy⟩ : ∃ y, S.list.getD m 0 = y := ⟨_, rfl⟩
          have gx := list_get ⟨a, b, c, d, e, f, g, h⟩ hlt
          have gy := addTo_get ⟨a, b, c, d, e, f, g, h⟩ S hlt
          have gs := list_get S hlt
          rw [hx] at gx
          rw [hy] at gy gs
          have hx2 := HOK.out x (List.mem_of_getElem? gx)
          have hy2 := HSw.out y (List.mem_of_getElem? gs)
          have cx := (HSr.out wr hBq).get (ints_get gx)
          have cy := HR.out.get (ints_get gy)
          have fy := HR.out.free m
          simp only [vI] at cx cy
          obtain ⟨z, hz, hz2⟩ := sum_get [y, x]
          have HZ := Lib.hid (And.intro hz (words2 hy2 hx2))
          have HS1 : Hid (addTo ⟨a, b, c, d, e, f, g, h⟩ S (m + 1) = (addTo ⟨a, b, c, d, e, f, g, h⟩ S m).set m z) := Lib.hid (by rw [addTo_succ _ _ hlt, hx, hy, ← hz, sumW_swap])
          have m0 : (0 : Int) ≤ m := by omega
          have m1 : (m : Int) < 8 := by omega
          have hgq := HR.out.lt
          clear hx hy gx gy gs hz
          go_wp2_with fail
          go_region_with ((go_at_call 89; (with_reducible refine Calls.mono (radd2 y x z _ _ (by simp) (by (repeat' (first | (with_reducible refine blk_drew ?_) | (with_reducible refine Blk.new_at ?_ _ _) | (simp; done)))) HZ.out.2 HZ.out.1) ?_); rintro r w3 ⟨rfl, rfl⟩))
          all_goals
            go_wp2_with fail
            go_roundw
            case rel =>
              (repeat apply Exists.intro)
              refine ⟨⟨m + 1, by omega, by go_num, by have := hBq; go_grown, ?_⟩, rfl⟩
              have := HR.out.set_ m (z : Int)
              rw [← ints_set] at this
              rw [HS1.out]
              exact Lib.hid (Row.alloc this (.cells #[.int .i64 y, .int .i64 x] 3))
            case measure => simp [intOf]; omega
        · obtain rfl : m = 8 := by omega
          have hle : ((ints (stepS ⟨a, b, c, d, e, f, g, h⟩ s)).map vI).toArray.size = 8 := by simp [ints, stepS, addTo_len]
          have hone : ((ints (stepS ⟨a, b, c, d, e, f, g, h⟩ s)).map vI).toArray.all (·.oneCell') = true := all_oneCell_toArray (fun v hv => spread_one hv)
          have hT7 : Blk wr (w2.heap.size + 1) 22 ((ints (stepS ⟨a, b, c, d, e, f, g, h⟩ s)).map vI).toArray := by
            have := HR.out
            rw [stepS, HTn.out]
            exact this
          have hX := HXr.out wr hBq
          generalize hTT : ((ints (stepS ⟨a, b, c, d, e, f, g, h⟩ s)).map vI).toArray = R at hle hone hT7
          have HTT := Lib.hid hTT
          have hBw := hB2.trans (hBq.mono hB2.size)
          clear hTT
          go_wp2_with (first
            | (refine wpList_load_row rfl 22 (.tmp 8) rfl (w2.heap.size + 1) rfl 22 R (0, 0) (.array 8 3) hT7 (by kernel_rfl) rfl (by rw [hle]; kernel_rfl) ?_)
            | (refine wpList_store_row rfl 22 (.tmp 4) (.tmp 126) rfl (w.heap.size + 1) R rfl rfl 22 #[.int .i64 0, .int .i64 0, .int .i64 0, .int .i64 0, .int .i64 0, .int .i64 0, .int .i64 0, .int .i64 0] hX (by rw [hle]; kernel_rfl) (by rw [hle]; rfl) hone ?_)
            | (with_reducible refine end_at ?_))
          refine end_ret (results_row_tmp (Tryd.results23) _ _ (w.heap.size + 1) 22 R (0, 0) (.array 8 3) (.bool true) rfl rfl (setRow_heap _ _ _ _ _ _ hX) (by kernel_rfl) rfl (by rw [hle]; kernel_rfl)) rfl ?_
          exact ⟨by rw [HTT.out], below_setRow hBw (by omega) _⟩
end Go.Proofs.YtkaaicmadknjcaaDoor
