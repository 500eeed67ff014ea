/- digest.Step: the walk. -/
import Derived.Test.YtbgohcedakpnbaaDoorDigR
import Derived.Deep.DeepCutAuto
set_option linter.unusedVariables false
namespace Go.Proofs.YtbgohcedakpnbaaDoor
open Go.RowKit
set_option maxHeartbeats 2000000 in
set_option maxRecDepth 100000 in
theorem step_in (a b c d e f g h : Nat) (s : ByteArray) (w : World) (hs : s.size = 64) (hG : Rounds w) (hok : S8.ok ⟨a, b, c, d, e, f, g, h⟩) :
    Calls Tryd.prog 126 #[.agg #[.int .i64 a, .int .i64 b, .int .i64 c, .int .i64 d, .int .i64 e, .int .i64 f, .int .i64 g, .int .i64 h], .string s] w fun r w' => r = .returned (.tuple #[.agg ((ints (stepS ⟨a, b, c, d, e, f, g, h⟩ s)).map vI).toArray, .bool true]) ∧ Below w.heap.size w w' := by
  have HS := Lib.hid hs
  have HOK := Lib.hid hok
  have HI := Lib.hid (words_is (L := [a, b, c, d, e, f, g, h]) hok)
  obtain ⟨hz, hisz⟩ := zero_of_info w64_info
  obtain ⟨Z, hZ⟩ : ∃ Z : Array Value, (List.replicate 64 (Value.int .i64 0)).toArray = Z := ⟨_, rfl⟩
  rw [hZ] at hz
  have hZl : Z.size = 64 := by rw [← hZ]; simp
  have HZl := Lib.hid hZl
  have HZI := Lib.hid hisz
  have hlen : (s.size : Int) = 64 := by omega
  have HG := Lib.hid hG
  clear hs hok hG hZ hZl hisz
  go_enter Tryd.func126, Tryd.ntmps126
  go_wp2_with fail
  refine (is_any (ints [a, b, c, d, e, f, g, h]) _ 8 8 _ (slr_newT [a, b, c, d, e, f, g, h] ((Blk.new w _ _).alloc _) (by simp; omega)) (by omega)).mono ?_
  rintro r w1 ⟨rfl, rfl⟩
  rw [HI.out]
  go_wp2_with fail
  refine (spread_any s _ HS.out).mono ?_
  rintro r w2 ⟨rfl, hb2⟩
  have hA2 := ((Blk.new w 143 #[.int .i64 a, .int .i64 b, .int .i64 c, .int .i64 d, .int .i64 e, .int .i64 f, .int .i64 g, .int .i64 h]).alloc (.cells #[.int .i64 0, .int .i64 0, .int .i64 0, .int .i64 0, .int .i64 0, .int .i64 0, .int .i64 0, .int .i64 0] 143)).below hb2 (by simp; omega)
  have hX2 := (Blk.new_at (w := w.alloc (.cells #[.int .i64 a, .int .i64 b, .int .i64 c, .int .i64 d, .int .i64 e, .int .i64 f, .int .i64 g, .int .i64 h] 143)) (g := w.heap.size + 1) (by simp) 143 #[.int .i64 0, .int .i64 0, .int .i64 0, .int .i64 0, .int .i64 0, .int .i64 0, .int .i64 0, .int .i64 0]).below hb2 (by simp)
  have hB2 : Below w.heap.size w w2 := Below.trans (by go_grown) (hb2.mono (by simp; omega))
  have hle : ((ints (spreadW s)).map vI).toArray.size = 64 := by
    have := spreadTo_len (l := cutW s true) (by rw [cutW_len, HS.out]) 48
    simp [ints, spreadW, this]
  have hone : ((ints (spreadW s)).map vI).toArray.all (·.oneCell') = true := all_oneCell_toArray (fun v hv => spread_one hv)
  generalize hTT : ((ints (spreadW s)).map vI).toArray = T at hle hone ⊢
  have HTT := Lib.hid hTT
  clear hTT hb2
  go_wp2_with (first
    | (refine wpList_store_row rfl 163 (.tmp 6) (.tmp 30) rfl w2.heap.size T rfl rfl 163 Z (Blk.new _ _ _) (by rw [hle]; exact HZI.out) (by rw [hle, HZl.out]) hone ?_; rw [World.setRow_alloc_new])
    | (refine wpList_load_row rfl 143 (.tmp 2) rfl w.heap.size rfl 143 #[.int .i64 a, .int .i64 b, .int .i64 c, .int .i64 d, .int .i64 e, .int .i64 f, .int .i64 g, .int .i64 h] (0, 0) (.array 8 3) (hA2.alloc _) (by kernel_rfl) rfl (by kernel_rfl) ?_)
    | (refine wpList_store_row rfl 143 (.tmp 7) (.tmp 31) rfl (w2.heap.size + 1) #[.int .i64 a, .int .i64 b, .int .i64 c, .int .i64 d, .int .i64 e, .int .i64 f, .int .i64 g, .int .i64 h] rfl rfl 143 #[.int .i64 0, .int .i64 0, .int .i64 0, .int .i64 0, .int .i64 0, .int .i64 0, .int .i64 0, .int .i64 0] (Blk.new_at (by simp) _ _) (by kernel_rfl) (by rfl) (by simp [Value.oneCell']) ?_; rw [show w2.heap.size + 1 = (w2.alloc (.cells T 163)).heap.size by simp, World.setRow_alloc_new]))
  have HG2 := Lib.hid (HG.out.below hB2 HG.out.pos)
  have HA2 := Lib.hid hA2
  have HX2 := Lib.hid hX2
  have hsz := hB2.size
  have h2s : w.heap.size + 2 ≤ w2.heap.size := by have := hX2.lt; omega
  clear hA2 hX2
  go_loopw [32] (fun v wr => ∃ (n : Nat) (S : S8), n ≤ 64 ∧ v = .int .i64 n ∧ Hid (turnsTo (spreadW s) ⟨a, b, c, d, e, f, g, h⟩ n = S) ∧ Below w2.heap.size w2 wr ∧ Hid (Blk wr w2.heap.size 163 T) ∧ Hid (Blk wr (w2.heap.size + 1) 143 #[.int .i64 S.a, .int .i64 S.b, .int .i64 S.c, .int .i64 S.d, .int .i64 S.e, .int .i64 S.f, .int .i64 S.g, .int .i64 S.h])) (fun v _ => 64 - (intOf v).toNat)
  case atStart => exact ⟨0, ⟨a, b, c, d, e, f, g, h⟩, by omega, rfl, rfl, by go_grown, (Blk.new _ _ _).alloc _, Blk.new_at (by simp) _ _⟩
  case round =>
    obtain ⟨n, S, hn, rfl, HTn, hBr, HT, HV⟩ := hrel
    have hS := turnsTo_ok (s := ⟨a, b, c, d, e, f, g, h⟩) HOK.out (spreadW s) n
    rw [HTn.out] at hS
    by_cases hlt : n < 64
    · obtain ⟨A, B, C, D, E, F, G, H⟩ := S
      have v0 := HV.out.cells 0 _ rfl
      have v1 := HV.out.cells 1 _ rfl
      have v2 := HV.out.cells 2 _ rfl
      have v3 := HV.out.cells 3 _ rfl
      have v4 := HV.out.cells 4 _ rfl
      have v5 := HV.out.cells 5 _ rfl
      have v6 := HV.out.cells 6 _ rfl
      have v7 := HV.out.cells 7 _ rfl
      simp only [List.getElem_toArray, List.getElem_cons_zero, List.getElem_cons_succ] at v0 v1 v2 v3 v4 v5 v6 v7
      obtain ⟨kk, hkk⟩ : ∃ k, K64[n]? = some k := ⟨_, List.getElem?_eq_getElem (by rw [K64_len]; exact hlt)⟩
      have hkk2 : kk < 4294967296 := (show words K64 by unfold words; decide) kk (List.mem_of_getElem? hkk)
      have hll : (spreadW s).length = 64 := spreadTo_len (l := cutW s true) (by rw [cutW_len, HS.out]) 48
      obtain ⟨x, hx⟩ : ∃ x, (spreadW s)[n]? = some x := ⟨_, List.getElem?_eq_getElem (by omega)⟩
      have hx2 : x < 4294967296 := spreadTo_words (cutW_words s true) 48 x (List.mem_of_getElem? hx)
      have hTx : T[n]? = some (.int .i64 x) := by rw [← HTT.out, List.getElem?_toArray, List.getElem?_map, ints_get hx]; rfl
      have HNew : Hid (turnsTo (spreadW s) ⟨a, b, c, d, e, f, g, h⟩ (n + 1) = turnS ⟨A, B, C, D, E, F, G, H⟩ kk x) := Lib.hid (by rw [turnsTo, HTn.out, List.getD_eq_getElem?_getD, List.getD_eq_getElem?_getD, hkk, hx]; rfl)
      have HK := Lib.hid hkk
      have HTx := Lib.hid hTx
      have HGr := Lib.hid ((HG2.out).below hBr HG2.out.pos)
      have hS' : ∀ x ∈ (S8.mk A B C D E F G H).list, x < 4294967296 := hS
      simp only [S8.list, List.mem_cons, List.not_mem_nil, or_false, forall_eq_or_imp, forall_eq] at hS'
      obtain ⟨hA, hB, hC, hD, hE, hF, hGg, hH⟩ := hS'
      obtain ⟨e1, he1, e1l⟩ := rotl_get E 26 hE
      obtain ⟨e2, he2, e2l⟩ := rotl_get E 21 hE
      obtain ⟨e3, he3, e3l⟩ := rotl_get E 7 hE
      obtain ⟨eX, heX, eXl⟩ := xor_get [e1, e2, e3] (words3 e1l e2l e3l)
      obtain ⟨ne, hne, nel, hne2, hne3⟩ := sub_get E hE
      obtain ⟨f1, hf1, f1l⟩ := and_get E F hE
      obtain ⟨f2, hf2, f2l⟩ := and_get ne G nel
      obtain ⟨fX, hfX, fXl⟩ := xor_get [f1, f2] (words2 f1l f2l)
      obtain ⟨P, hP, Pl⟩ := sum_get [H, eX, fX, kk, x]
      obtain ⟨a1, ha1, a1l⟩ := rotl_get A 30 hA
      obtain ⟨a2, ha2, a2l⟩ := rotl_get A 19 hA
      obtain ⟨a3, ha3, a3l⟩ := rotl_get A 10 hA
      obtain ⟨aX, haX, aXl⟩ := xor_get [a1, a2, a3] (words3 a1l a2l a3l)
      obtain ⟨m1, hm1, m1l⟩ := and_get A B hA
      obtain ⟨m2, hm2, m2l⟩ := and_get A C hA
      obtain ⟨m3, hm3, m3l⟩ := and_get B C hB
      obtain ⟨mX, hmX, mXl⟩ := xor_get [m1, m2, m3] (words3 m1l m2l m3l)
      obtain ⟨Q, hQ, Ql⟩ := sum_get [aX, mX]
      obtain ⟨U, hU, Ul⟩ := sum_get [P, Q]
      obtain ⟨V, hV, Vl⟩ := sum_get [D, P]
      have HqW : Hid (qW ⟨A, B, C, D, E, F, G, H⟩ = Q) := Lib.hid (by simp only [qW]; rw [ha1, ha2, ha3, haX, hm1, hm2, hm3, hmX, hQ])
      have HA := Lib.hid (And.intro ha1 (And.intro ha2 (And.intro ha3 haX)))
      have HM := Lib.hid (And.intro hm1 (And.intro hm2 (And.intro hm3 hmX)))
      have HQ := Lib.hid (And.intro hQ (And.intro hU hV))
      have HAw := Lib.hid (words3 a1l a2l a3l)
      have HMw := Lib.hid (words3 m1l m2l m3l)
      have HQw := Lib.hid (And.intro (words2 aXl mXl) (And.intro (words2 Pl Ql) (words2 hD Pl)))
      have HpW : Hid (pW ⟨A, B, C, D, E, F, G, H⟩ kk x = P) := Lib.hid (by simp only [pW]; rw [he1, he2, he3, heX, hne, hf1, hf2, hfX, hP])
      have HE := Lib.hid (And.intro he1 (And.intro he2 (And.intro he3 heX)))
      have HF := Lib.hid (And.intro hf1 (And.intro hf2 hfX))
      have HP := Lib.hid hP
      have HEw := Lib.hid (words3 e1l e2l e3l)
      have HFw := Lib.hid (words2 f1l f2l)
      have HPw := Lib.hid (words5 hH eXl fXl hkk2 hx2)
      have gk := HGr.out n kk HK.out
      have tx := (HT.out.cell n).trans HTx.out
      have n0 : (0 : Int) ≤ n := by omega
      have n1 : (n : Int) < 64 := by omega
      clear hkk hx hTx he1 he2 he3 heX hne hf1 hf2 hfX hP e1l e2l e3l eXl f1l f2l fXl hS hll hle hone ha1 ha2 ha3 haX hm1 hm2 hm3 hmX hQ hU hV a1l a2l a3l aXl m1l m2l m3l mXl Ql Ul Vl
      go_wp2_with fail
      go_region
      go_wp2_with fail
      go_region
      go_wp2_with fail
      clear v0 v1 v2 v3 v4 v5 v6 v7
      refine turnU (w2.heap.size) n E F G H kk x e1 e2 e3 eX ne f1 f2 fX P T _ _ _ _ _ _ _ _ _ _ _ _ _ _ _ _ _ _ _ _ _ _ _ _ _ _ _ _ _ _ _ _ _ _ _ _ _ _ _ _ _ _ _ _ _ _ _ _ _ _ _ _ _ _ _ _ _ _ _ _ _ _ _ _ _ _ _ _ _ _ _ _ _ _ _ _ _ _ _ _ _ _ _ _ _ _ _ _ _ _ _ _ _ _ _ _ _ _ _ _ _ _ _ _ _ _ _ _ _ _ _ _ _ _ _ _ _ _ _ _ _ _ _ (Lib.hid HGr.out) HK (Lib.hid HT.out) HTx hE hF hGg nel (Lib.hid HE.out.1) (Lib.hid HE.out.2.1) (Lib.hid HE.out.2.2.1) (Lib.hid HE.out.2.2.2) (Lib.hid HF.out.1) (Lib.hid HF.out.2.1) (Lib.hid HF.out.2.2) HP HEw HFw HPw hne2 hne3 gk tx n0 n1 ?_
      intro wy s51 s52 s53 s54 s55 s56 s57 s58 s59 s60 s61 s62 s63 s64 s65 s66 s67 s68 s69 s70 s71 s72 s73 s74 s75 hBy'
      have hBy : Below wr.heap.size wr wy := ⟨hBy'.os, hBy'.tape, hBy'.output, hBy'.size, hBy'.block⟩
      have hsy := hBy.size
      clear hBy'
      have HV1 := Lib.hid (HV.out.below hBy HV.out.lt)
      have HT1 := Lib.hid (HT.out.below hBy HT.out.lt)
      go_upto_region 11 with (fail)
      refine turnV A B C a1 a2 a3 aX m1 m2 m3 mX Q _ _ _ _ _ _ _ _ _ _ _ _ _ _ _ _ _ _ _ _ _ _ _ _ _ _ _ _ _ _ _ _ _ _ _ _ _ _ _ _ _ _ _ _ _ _ _ _ _ _ _ _ _ _ _ _ _ _ _ _ _ _ _ _ _ _ _ _ _ _ _ _ _ _ _ _ _ _ _ _ _ _ _ _ _ _ _ _ _ _ _ _ _ _ _ _ _ _ _ _ _ _ _ _ _ _ _ _ _ _ _ _ _ _ _ _ _ _ _ _ _ _ _ _ _ _ hA hB hC HA HM (Lib.hid HQ.out.1) HAw HMw (Lib.hid HQw.out.1) ?_
      intro wv s77 s78 s79 s80 s81 s82 s83 s84 s85 s86 s87 s88 s89 s90 s91 s92 s93 s94 s95 s96 hBv'
      have hBv : Below wr.heap.size wr wv := Below.trans (Below.trans hBy (by go_grown)) (hBv'.mono (by simp; omega))
      have hsv := hBv.size
      clear hBv' HV1 HT1
      go_upto_region 12 with (fail)
      refine turnW (w2.heap.size + 1) A B C D E F G H P Q U V _ _ _ _ _ _ _ _ _ _ _ _ _ _ _ _ _ _ _ _ _ _ _ _ _ _ _ _ _ _ _ _ _ _ _ _ _ _ _ _ _ _ _ _ _ _ _ _ _ _ _ _ _ _ _ _ _ _ _ _ _ _ _ _ _ _ _ _ _ _ _ _ _ _ _ _ _ _ _ _ _ _ _ _ _ _ _ _ _ _ _ _ _ _ _ _ _ _ _ _ _ _ _ _ _ _ _ _ _ _ _ _ _ _ _ _ _ _ _ (Lib.hid HQ.out.2) (Lib.hid HQw.out.2) (Lib.hid ((HV.out.below hBv HV.out.lt).alloc _)) ?_
      intro s98 s99 s100 s101 s102 s103 s104 s105 s106 s107 s108 s109 s110 s111 s112
      go_wp2_with fail
      go_roundw
      case rel =>
        refine ⟨n + 1, ⟨U, A, B, C, V, E, F, G⟩, by omega, by go_num, Lib.hid ?_, ?_, ?_, ?_⟩
        · rw [HNew.out, turnS, HpW.out, HqW.out]; simp only [HQ.out.2.1, HQ.out.2.2]
        · exact below_setRow (Below.alloc (Below.alloc (Below.alloc (hBr.trans (hBv.mono hBr.size)) (Nat.le_trans hBr.size hsv) _) (by have := hBr.size; simp; omega) _) (by have := hBr.size; simp; omega) _) (by omega) _
        · refine Lib.hid ?_
          exact (setRow_other _ _ _ _ (by omega)).trans ((((HT.out.below hBv HT.out.lt).alloc _).alloc _).alloc _)
        · exact Lib.hid (setRow_heap _ _ _ _ _ _ ((((HV.out.below hBv HV.out.lt).alloc _).alloc _).alloc _))
      case measure => simp [intOf]; omega
    · obtain rfl : n = 64 := by omega
      have HR0 : Hid (Row vI wr (w2.heap.size + 1) 143 (ints (addTo ⟨a, b, c, d, e, f, g, h⟩ S 0))) := Lib.hid HV.out
      have HSr : Hid (∀ W, Below w2.heap.size w2 W → Row vI W w.heap.size 143 (ints (S8.list ⟨a, b, c, d, e, f, g, h⟩))) := Lib.hid (fun W hW => HA2.out.below hW HA2.out.lt)
      have HXr : Hid (∀ W, Below w2.heap.size w2 W → Blk W (w.heap.size + 1) 143 #[.int .i64 0, .int .i64 0, .int .i64 0, .int .i64 0, .int .i64 0, .int .i64 0, .int .i64 0, .int .i64 0]) := Lib.hid (fun W hW => HX2.out.below hW HX2.out.lt)
      have HSw := Lib.hid hS
      have hg7 := HV.out.lt
      clear hS hlt
      obtain ⟨wo, rfl⟩ : ∃ wo : World, wo = wr := ⟨_, rfl⟩
      go_wp2_with fail
      go_loopw [114] (fun v wq => ∃ m : Nat, m ≤ 8 ∧ v = .int .i64 m ∧ Below w2.heap.size w2 wq ∧ Hid (Row vI wq (w2.heap.size + 1) 143 (ints (addTo ⟨a, b, c, d, e, f, g, h⟩ S m)))) (fun v _ => 8 - (intOf v).toNat)
      case atStart => exact ⟨0, by omega, rfl, hBr, HR0⟩
      case round =>
        obtain ⟨m, hm, rfl, hBq, HR⟩ := hrel
        by_cases hlt : m < 8
        · obtain ⟨x, hx⟩ : ∃ x, (S8.list ⟨a, b, c, d, e, f, g, h⟩).getD m 0 = x := ⟨_, rfl⟩
          obtain ⟨y, hy⟩ : ∃ y, S.list.getD m 0 = y := ⟨_, rfl⟩
          have gx := list_get ⟨a, b, c, d, e, f, g, h⟩ hlt
          have gy := addTo_get ⟨a, b, c, d, e, f, g, h⟩ S hlt
          have gs := list_get S hlt
          rw [hx] at gx
          rw [hy] at gy gs
          have hx2 := HOK.out x (List.mem_of_getElem? gx)
          have hy2 := HSw.out y (List.mem_of_getElem? gs)
          have cx := (HSr.out wr hBq).get (ints_get gx)
          have cy := HR.out.get (ints_get gy)
          have fy := HR.out.free m
          simp only [vI] at cx cy
          obtain ⟨z, hz, hz2⟩ := sum_get [x, y]
          have HZ := Lib.hid (And.intro hz (words2 hx2 hy2))
          have HS1 : Hid (addTo ⟨a, b, c, d, e, f, g, h⟩ S (m + 1) = (addTo ⟨a, b, c, d, e, f, g, h⟩ S m).set m z) := Lib.hid (by rw [addTo_succ _ _ hlt, hx, hy, hz])
          have m0 : (0 : Int) ≤ m := by omega
          have m1 : (m : Int) < 8 := by omega
          have hgq := HR.out.lt
          clear hx hy gx gy gs hz
          go_wp2_with fail
          go_region_with ((go_at_call 140; (with_reducible refine Calls.mono (add2 x y z _ _ (by simp) (by (repeat' (first | (with_reducible refine blk_drew ?_) | (with_reducible refine Blk.new_at ?_ _ _) | (simp; done)))) HZ.out.2 HZ.out.1) ?_); rintro r w3 ⟨rfl, rfl⟩))
          all_goals
            go_wp2_with fail
            go_roundw
            case rel =>
              (repeat apply Exists.intro)
              refine ⟨⟨m + 1, by omega, by go_num, by have := hBq; go_grown, ?_⟩, rfl⟩
              have := HR.out.set_ m (z : Int)
              rw [← ints_set] at this
              rw [HS1.out]
              exact Lib.hid (Row.alloc this (.cells #[.int .i64 x, .int .i64 y] 3))
            case measure => simp [intOf]; omega
        · obtain rfl : m = 8 := by omega
          have hle : ((ints (stepS ⟨a, b, c, d, e, f, g, h⟩ s)).map vI).toArray.size = 8 := by simp [ints, stepS, addTo_len]
          have hone : ((ints (stepS ⟨a, b, c, d, e, f, g, h⟩ s)).map vI).toArray.all (·.oneCell') = true := all_oneCell_toArray (fun v hv => spread_one hv)
          have hT7 : Blk wr (w2.heap.size + 1) 143 ((ints (stepS ⟨a, b, c, d, e, f, g, h⟩ s)).map vI).toArray := by
            have := HR.out
            rw [stepS, HTn.out]
            exact this
          have hX := HXr.out wr hBq
          generalize hTT : ((ints (stepS ⟨a, b, c, d, e, f, g, h⟩ s)).map vI).toArray = R at hle hone hT7
          have HTT := Lib.hid hTT
          have hBw := hB2.trans (hBq.mono hB2.size)
          clear hTT
          go_wp2_with (first
            | (refine wpList_load_row rfl 143 (.tmp 7) rfl (w2.heap.size + 1) rfl 143 R (0, 0) (.array 8 3) hT7 (by kernel_rfl) rfl (by rw [hle]; kernel_rfl) ?_)
            | (refine wpList_store_row rfl 143 (.tmp 4) (.tmp 128) rfl (w.heap.size + 1) R rfl rfl 143 #[.int .i64 0, .int .i64 0, .int .i64 0, .int .i64 0, .int .i64 0, .int .i64 0, .int .i64 0, .int .i64 0] hX (by rw [hle]; kernel_rfl) (by rw [hle]; rfl) hone ?_)
            | (with_reducible refine end_at ?_))
          refine end_ret (results_row_tmp (Tryd.results126) _ _ (w.heap.size + 1) 143 R (0, 0) (.array 8 3) (.bool true) rfl rfl (setRow_heap _ _ _ _ _ _ hX) (by kernel_rfl) rfl (by rw [hle]; kernel_rfl)) rfl ?_
          exact ⟨by rw [HTT.out], below_setRow hBw (by omega) _⟩
end Go.Proofs.YtbgohcedakpnbaaDoor
