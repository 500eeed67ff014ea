/- what a round inside a fence keeps. -/
import Derived.Test.YtpkomloblhbkiaaGreatDoorDigR
import Derived.Deep.DeepCutAuto
import Derived.Test.YtpkomloblhbkiaaGreatDoorBytes
import Derived.RangeFuncNested
import Derived.RangeFuncBound
import Derived.RangeFuncCalls
import Derived.RangeFuncLeaves
import Derived.Shelf.Abstract
import Derived.Shelf.RegionOpen
import Derived.OwnWalkIn
import Derived.TacticsInMore
import Derived.LoopNIn
import Derived.LoopIn
import Derived.Test.YtpkomloblhbkiaaGreatDoorWordA
import Derived.Deep.WholeRow
set_option linter.unusedVariables false
/- digest.Step: the walk. -/
namespace Go.Proofs.YtpkomloblhbkiaaGreatDoor
open Go.RowKit
set_option maxHeartbeats 2000000 in
set_option maxRecDepth 100000 in
theorem step_in (a b c d e f g h : Nat) (s : ByteArray) (w : World) (hs : s.size = 64) (hG : Rounds w) (hok : S8.ok ⟨a, b, c, d, e, f, g, h⟩) :
    Calls Tryz.prog 38 #[.agg #[.int .i64 a, .int .i64 b, .int .i64 c, .int .i64 d, .int .i64 e, .int .i64 f, .int .i64 g, .int .i64 h], .string s] w fun r w' => r = .returned (.tuple #[.agg ((ints (stepS ⟨a, b, c, d, e, f, g, h⟩ s)).map vI).toArray, .bool true]) ∧ Below w.heap.size w w' := by
  have HS := Lib.hid hs
  have HOK := Lib.hid hok
  have HI := Lib.hid (words_is (L := [a, b, c, d, e, f, g, h]) hok)
  obtain ⟨hz, hisz⟩ := zero_of_info w64_info
  obtain ⟨Z, hZ⟩ : ∃ Z : Array Value, (List.replicate 64 (Value.int .i64 0)).toArray = Z := ⟨_, rfl⟩
  rw [hZ] at hz
  have hZl : Z.size = 64 := by rw [← hZ]; simp
  have HZl := Lib.hid hZl
  have HZI := Lib.hid hisz
  have hlen : (s.size : Int) = 64 := by omega
  have HG := Lib.hid hG
  clear hs hok hG hZ hZl hisz
  go_enter Tryz.func38, Tryz.ntmps38
  go_wp2_with fail
  refine (is_any (ints [a, b, c, d, e, f, g, h]) _ 8 8 _ (slr_newT [a, b, c, d, e, f, g, h] ((Blk.new w _ _).alloc _) (by simp; omega)) (by omega)).mono ?_
  rintro r w1 ⟨rfl, rfl⟩
  rw [HI.out]
  go_wp2_with fail
  refine (spread_any s _ HS.out).mono ?_
  rintro r w2 ⟨rfl, hb2⟩
  have hA2 := ((Blk.new w 90 #[.int .i64 a, .int .i64 b, .int .i64 c, .int .i64 d, .int .i64 e, .int .i64 f, .int .i64 g, .int .i64 h]).alloc (.cells #[.int .i64 0, .int .i64 0, .int .i64 0, .int .i64 0, .int .i64 0, .int .i64 0, .int .i64 0, .int .i64 0] 90)).below hb2 (by simp; omega)
  have hX2 := (Blk.new_at (w := w.alloc (.cells #[.int .i64 a, .int .i64 b, .int .i64 c, .int .i64 d, .int .i64 e, .int .i64 f, .int .i64 g, .int .i64 h] 90)) (g := w.heap.size + 1) (by simp) 90 #[.int .i64 0, .int .i64 0, .int .i64 0, .int .i64 0, .int .i64 0, .int .i64 0, .int .i64 0, .int .i64 0]).below hb2 (by simp)
  have hB2 : Below w.heap.size w w2 := Below.trans (by go_grown) (hb2.mono (by simp; omega))
  have hle : ((ints (spreadW s)).map vI).toArray.size = 64 := by
    have := spreadTo_len (l := cutW s true) (by rw [cutW_len, HS.out]) 48
    simp [ints, spreadW, this]
  have hone : ((ints (spreadW s)).map vI).toArray.all (·.oneCell') = true := all_oneCell_toArray (fun v hv => spread_one hv)
  generalize hTT : ((ints (spreadW s)).map vI).toArray = T at hle hone ⊢
  have HTT := Lib.hid hTT
  clear hTT hb2
  go_wp2_with (first
    | (refine wpList_store_row rfl 142 (.tmp 6) (.tmp 30) rfl w2.heap.size T rfl rfl 142 Z (Blk.new _ _ _) (by rw [hle]; exact HZI.out) (by rw [hle, HZl.out]) hone ?_; rw [World.setRow_alloc_new])
    | (refine wpList_load_row rfl 90 (.tmp 2) rfl w.heap.size rfl 90 #[.int .i64 a, .int .i64 b, .int .i64 c, .int .i64 d, .int .i64 e, .int .i64 f, .int .i64 g, .int .i64 h] (0, 0) (.array 8 3) (hA2.alloc _) (by kernel_rfl) rfl (by kernel_rfl) ?_)
    | (refine wpList_store_row rfl 90 (.tmp 7) (.tmp 31) rfl (w2.heap.size + 1) #[.int .i64 a, .int .i64 b, .int .i64 c, .int .i64 d, .int .i64 e, .int .i64 f, .int .i64 g, .int .i64 h] rfl rfl 90 #[.int .i64 0, .int .i64 0, .int .i64 0, .int .i64 0, .int .i64 0, .int .i64 0, .int .i64 0, .int .i64 0] (Blk.new_at (by simp) _ _) (by kernel_rfl) (by rfl) (by simp [Value.oneCell']) ?_; rw [show w2.heap.size + 1 = (w2.alloc (.cells T 142)).heap.size by simp, World.setRow_alloc_new]))
  have HG2 := Lib.hid (HG.out.below hB2 HG.out.pos)
  have HA2 := Lib.hid hA2
  have HX2 := Lib.hid hX2
  have hsz := hB2.size
  have h2s : w.heap.size + 2 ≤ w2.heap.size := by have := hX2.lt; omega
  clear hA2 hX2
  go_loopw [32] (fun v wr => ∃ (n : Nat) (S : S8), n ≤ 64 ∧ v = .int .i64 n ∧ Hid (turnsTo (spreadW s) ⟨a, b, c, d, e, f, g, h⟩ n = S) ∧ Below w2.heap.size w2 wr ∧ Hid (Blk wr w2.heap.size 142 T) ∧ Hid (Blk wr (w2.heap.size + 1) 90 #[.int .i64 S.a, .int .i64 S.b, .int .i64 S.c, .int .i64 S.d, .int .i64 S.e, .int .i64 S.f, .int .i64 S.g, .int .i64 S.h])) (fun v _ => 64 - (intOf v).toNat)
  case atStart => exact ⟨0, ⟨a, b, c, d, e, f, g, h⟩, by omega, rfl, rfl, by go_grown, (Blk.new _ _ _).alloc _, Blk.new_at (by simp) _ _⟩
  case round =>
    obtain ⟨n, S, hn, rfl, HTn, hBr, HT, HV⟩ := hrel
    have hS := turnsTo_ok (s := ⟨a, b, c, d, e, f, g, h⟩) HOK.out (spreadW s) n
    rw [HTn.out] at hS
    by_cases hlt : n < 64
    · obtain ⟨A, B, C, D, E, F, G, H⟩ := S
      have v0 := HV.out.cells 0 _ rfl
      have v1 := HV.out.cells 1 _ rfl
      have v2 := HV.out.cells 2 _ rfl
      have v3 := HV.out.cells 3 _ rfl
      have v4 := HV.out.cells 4 _ rfl
      have v5 := HV.out.cells 5 _ rfl
      have v6 := HV.out.cells 6 _ rfl
      have v7 := HV.out.cells 7 _ rfl
      simp only [List.getElem_toArray, List.getElem_cons_zero, List.getElem_cons_succ] at v0 v1 v2 v3 v4 v5 v6 v7
      obtain ⟨kk, hkk⟩ : ∃ k, K64[n]? = some k := ⟨_, List.getElem?_eq_getElem (by rw [K64_len]; exact hlt)⟩
      have hkk2 : kk < 4294967296 := (show words K64 by unfold words; decide) kk (List.mem_of_getElem? hkk)
      have hll : (spreadW s).length = 64 := spreadTo_len (l := cutW s true) (by rw [cutW_len, HS.out]) 48
      obtain ⟨x, hx⟩ : ∃ x, (spreadW s)[n]? = some x := ⟨_, List.getElem?_eq_getElem (by omega)⟩
      have hx2 : x < 4294967296 := spreadTo_words (cutW_words s true) 48 x (List.mem_of_getElem? hx)
      have hTx : T[n]? = some (.int .i64 x) := by rw [← HTT.out, List.getElem?_toArray, List.getElem?_map, ints_get hx]; rfl
      have HNew : Hid (turnsTo (spreadW s) ⟨a, b, c, d, e, f, g, h⟩ (n + 1) = turnS ⟨A, B, C, D, E, F, G, H⟩ kk x) := Lib.hid (by rw [turnsTo, HTn.out, List.getD_eq_getElem?_getD, List.getD_eq_getElem?_getD, hkk, hx]; rfl)
      have HK := Lib.hid hkk
      have HTx := Lib.hid hTx
      have HGr := Lib.hid ((HG2.out).below hBr HG2.out.pos)
      have hS' : ∀ x ∈ (S8.mk A B C D E F G H).list, x < 4294967296 := hS
      simp only [S8.list, List.mem_cons, List.not_mem_nil, or_false, forall_eq_or_imp, forall_eq] at hS'
      obtain ⟨hA, hB, hC, hD, hE, hF, hGg, hH⟩ := hS'
      obtain ⟨e1, he1, e1l⟩ := rotl_get E 26 hE
      obtain ⟨e2, he2, e2l⟩ := rotl_get E 21 hE
      obtain ⟨e3, he3, e3l⟩ := rotl_get E 7 hE
      obtain ⟨eX, heX, eXl⟩ := xor_get [e1, e2, e3] (words3 e1l e2l e3l)
      obtain ⟨ne, hne, nel, hne2, hne3⟩ := sub_get E hE
      obtain ⟨f1, hf1, f1l⟩ := and_get E F hE
      obtain ⟨f2, hf2, f2l⟩ := and_get ne G nel
      obtain ⟨fX, hfX, fXl⟩ := xor_get [f1, f2] (words2 f1l f2l)
      obtain ⟨P, hP, Pl⟩ := sum_get [H, eX, fX, kk, x]
      obtain ⟨a1, ha1, a1l⟩ := rotl_get A 30 hA
      obtain ⟨a2, ha2, a2l⟩ := rotl_get A 19 hA
      obtain ⟨a3, ha3, a3l⟩ := rotl_get A 10 hA
      obtain ⟨aX, haX, aXl⟩ := xor_get [a1, a2, a3] (words3 a1l a2l a3l)
      obtain ⟨m1, hm1, m1l⟩ := and_get A B hA
      obtain ⟨m2, hm2, m2l⟩ := and_get A C hA
      obtain ⟨m3, hm3, m3l⟩ := and_get B C hB
      obtain ⟨mX, hmX, mXl⟩ := xor_get [m1, m2, m3] (words3 m1l m2l m3l)
      obtain ⟨Q, hQ, Ql⟩ := sum_get [aX, mX]
      obtain ⟨U, hU, Ul⟩ := sum_get [P, Q]
      obtain ⟨V, hV, Vl⟩ := sum_get [D, P]
      have HqW : Hid (qW ⟨A, B, C, D, E, F, G, H⟩ = Q) := Lib.hid (by simp only [qW]; rw [ha1, ha2, ha3, haX, hm1, hm2, hm3, hmX, hQ])
      have HA := Lib.hid (And.intro ha1 (And.intro ha2 (And.intro ha3 haX)))
      have HM := Lib.hid (And.intro hm1 (And.intro hm2 (And.intro hm3 hmX)))
      have HQ := Lib.hid (And.intro hQ (And.intro hU hV))
      have HAw := Lib.hid (words3 a1l a2l a3l)
      have HMw := Lib.hid (words3 m1l m2l m3l)
      have HQw := Lib.hid (And.intro (words2 aXl mXl) (And.intro (words2 Pl Ql) (words2 hD Pl)))
      have HpW : Hid (pW ⟨A, B, C, D, E, F, G, H⟩ kk x = P) := Lib.hid (by simp only [pW]; rw [he1, he2, he3, heX, hne, hf1, hf2, hfX, hP])
      have HE := Lib.hid (And.intro he1 (And.intro he2 (And.intro he3 heX)))
      have HF := Lib.hid (And.intro hf1 (And.intro hf2 hfX))
      have HP := Lib.hid hP
      have HEw := Lib.hid (words3 e1l e2l e3l)
      have HFw := Lib.hid (words2 f1l f2l)
      have HPw := Lib.hid (words5 hH eXl fXl hkk2 hx2)
      have gk := HGr.out n kk HK.out
      have tx := (HT.out.cell n).trans HTx.out
      have n0 : (0 : Int) ≤ n := by omega
      have n1 : (n : Int) < 64 := by omega
      clear hkk hx hTx he1 he2 he3 heX hne hf1 hf2 hfX hP e1l e2l e3l eXl f1l f2l fXl hS hll hle hone ha1 ha2 ha3 haX hm1 hm2 hm3 hmX hQ hU hV a1l a2l a3l aXl m1l m2l m3l mXl Ql Ul Vl
      go_wp2_with fail
      go_region
      go_wp2_with fail
      go_region
      go_wp2_with fail
      clear v0 v1 v2 v3 v4 v5 v6 v7
      refine turnU (w2.heap.size) n E F G H kk x e1 e2 e3 eX ne f1 f2 fX P T _ _ _ _ _ _ _ _ _ _ _ _ _ _ _ _ _ _ _ _ _ _ _ _ _ _ _ _ _ _ _ _ _ _ _ _ _ _ _ _ _ _ _ _ _ _ _ _ _ _ _ _ _ _ _ _ _ _ _ _ _ _ _ _ _ _ _ _ _ _ _ _ _ _ _ _ _ _ _ _ _ _ _ _ _ _ _ _ _ _ _ _ _ _ _ _ _ _ _ _ _ _ _ _ _ _ _ _ _ _ _ _ _ _ _ _ _ _ _ _ _ _ _ (Lib.hid HGr.out) HK (Lib.hid HT.out) HTx hE hF hGg nel (Lib.hid HE.out.1) (Lib.hid HE.out.2.1) (Lib.hid HE.out.2.2.1) (Lib.hid HE.out.2.2.2) (Lib.hid HF.out.1) (Lib.hid HF.out.2.1) (Lib.hid HF.out.2.2) HP HEw HFw HPw hne2 hne3 gk tx n0 n1 ?_
      intro wy s51 s52 s53 s54 s55 s56 s57 s58 s59 s60 s61 s62 s63 s64 s65 s66 s67 s68 s69 s70 s71 s72 s73 s74 s75 hBy'
      have hBy : Below wr.heap.size wr wy := ⟨hBy'.os, hBy'.tape, hBy'.output, hBy'.size, hBy'.block⟩
      have hsy := hBy.size
      clear hBy'
      have HV1 := Lib.hid (HV.out.below hBy HV.out.lt)
      have HT1 := Lib.hid (HT.out.below hBy HT.out.lt)
      go_upto_region 11 with (fail)
      refine turnV A B C a1 a2 a3 aX m1 m2 m3 mX Q _ _ _ _ _ _ _ _ _ _ _ _ _ _ _ _ _ _ _ _ _ _ _ _ _ _ _ _ _ _ _ _ _ _ _ _ _ _ _ _ _ _ _ _ _ _ _ _ _ _ _ _ _ _ _ _ _ _ _ _ _ _ _ _ _ _ _ _ _ _ _ _ _ _ _ _ _ _ _ _ _ _ _ _ _ _ _ _ _ _ _ _ _ _ _ _ _ _ _ _ _ _ _ _ _ _ _ _ _ _ _ _ _ _ _ _ _ _ _ _ _ _ _ _ _ _ hA hB hC HA HM (Lib.hid HQ.out.1) HAw HMw (Lib.hid HQw.out.1) ?_
      intro wv s77 s78 s79 s80 s81 s82 s83 s84 s85 s86 s87 s88 s89 s90 s91 s92 s93 s94 s95 s96 hBv'
      have hBv : Below wr.heap.size wr wv := Below.trans (Below.trans hBy (by go_grown)) (hBv'.mono (by simp; omega))
      have hsv := hBv.size
      clear hBv' HV1 HT1
      go_upto_region 12 with (fail)
      refine turnW (w2.heap.size + 1) A B C D E F G H P Q U V _ _ _ _ _ _ _ _ _ _ _ _ _ _ _ _ _ _ _ _ _ _ _ _ _ _ _ _ _ _ _ _ _ _ _ _ _ _ _ _ _ _ _ _ _ _ _ _ _ _ _ _ _ _ _ _ _ _ _ _ _ _ _ _ _ _ _ _ _ _ _ _ _ _ _ _ _ _ _ _ _ _ _ _ _ _ _ _ _ _ _ _ _ _ _ _ _ _ _ _ _ _ _ _ _ _ _ _ _ _ _ _ _ _ _ _ _ _ _ (Lib.hid HQ.out.2) (Lib.hid HQw.out.2) (Lib.hid ((HV.out.below hBv HV.out.lt).alloc _)) ?_
      intro s98 s99 s100 s101 s102 s103 s104 s105 s106 s107 s108 s109 s110 s111 s112
      go_wp2_with fail
      go_roundw
      case rel =>
        refine ⟨n + 1, ⟨U, A, B, C, V, E, F, G⟩, by omega, by go_num, Lib.hid ?_, ?_, ?_, ?_⟩
        · rw [HNew.out, turnS, HpW.out, HqW.out]; simp only [HQ.out.2.1, HQ.out.2.2]
        · exact below_setRow (Below.alloc (Below.alloc (Below.alloc (hBr.trans (hBv.mono hBr.size)) (Nat.le_trans hBr.size hsv) _) (by have := hBr.size; simp; omega) _) (by have := hBr.size; simp; omega) _) (by omega) _
        · refine Lib.hid ?_
          exact (setRow_other _ _ _ _ (by omega)).trans ((((HT.out.below hBv HT.out.lt).alloc _).alloc _).alloc _)
        · exact Lib.hid (setRow_heap _ _ _ _ _ _ ((((HV.out.below hBv HV.out.lt).alloc _).alloc _).alloc _))
      case measure => simp [intOf]; omega
    · obtain rfl : n = 64 := by omega
      have HR0 : Hid (Row vI wr (w2.heap.size + 1) 90 (ints (addTo ⟨a, b, c, d, e, f, g, h⟩ S 0))) := Lib.hid HV.out
      have HSr : Hid (∀ W, Below w2.heap.size w2 W → Row vI W w.heap.size 90 (ints (S8.list ⟨a, b, c, d, e, f, g, h⟩))) := Lib.hid (fun W hW => HA2.out.below hW HA2.out.lt)
      have HXr : Hid (∀ W, Below w2.heap.size w2 W → Blk W (w.heap.size + 1) 90 #[.int .i64 0, .int .i64 0, .int .i64 0, .int .i64 0, .int .i64 0, .int .i64 0, .int .i64 0, .int .i64 0]) := Lib.hid (fun W hW => HX2.out.below hW HX2.out.lt)
      have HSw := Lib.hid hS
      have hg7 := HV.out.lt
      clear hS hlt
      obtain ⟨wo, rfl⟩ : ∃ wo : World, wo = wr := ⟨_, rfl⟩
      go_wp2_with fail
      go_loopw [114] (fun v wq => ∃ m : Nat, m ≤ 8 ∧ v = .int .i64 m ∧ Below w2.heap.size w2 wq ∧ Hid (Row vI wq (w2.heap.size + 1) 90 (ints (addTo ⟨a, b, c, d, e, f, g, h⟩ S m)))) (fun v _ => 8 - (intOf v).toNat)
      case atStart => exact ⟨0, by omega, rfl, hBr, HR0⟩
      case round =>
        obtain ⟨m, hm, rfl, hBq, HR⟩ := hrel
        by_cases hlt : m < 8
        · obtain ⟨x, hx⟩ : ∃ x, (S8.list ⟨a, b, c, d, e, f, g, h⟩).getD m 0 = x := ⟨_, rfl⟩
          obtain ⟨y, hy⟩ : ∃ y, S.list.getD m 0 = y := ⟨_, rfl⟩
          have gx := list_get ⟨a, b, c, d, e, f, g, h⟩ hlt
          have gy := addTo_get ⟨a, b, c, d, e, f, g, h⟩ S hlt
          have gs := list_get S hlt
          rw [hx] at gx
          rw [hy] at gy gs
          have hx2 := HOK.out x (List.mem_of_getElem? gx)
          have hy2 := HSw.out y (List.mem_of_getElem? gs)
          have cx := (HSr.out wr hBq).get (ints_get gx)
          have cy := HR.out.get (ints_get gy)
          have fy := HR.out.free m
          simp only [vI] at cx cy
          obtain ⟨z, hz, hz2⟩ := sum_get [x, y]
          have HZ := Lib.hid (And.intro hz (words2 hx2 hy2))
          have HS1 : Hid (addTo ⟨a, b, c, d, e, f, g, h⟩ S (m + 1) = (addTo ⟨a, b, c, d, e, f, g, h⟩ S m).set m z) := Lib.hid (by rw [addTo_succ _ _ hlt, hx, hy, hz])
          have m0 : (0 : Int) ≤ m := by omega
          have m1 : (m : Int) < 8 := by omega
          have hgq := HR.out.lt
          clear hx hy gx gy gs hz
          go_wp2_with fail
          go_region_with ((go_at_call 74; (with_reducible refine Calls.mono (add2 x y z _ _ (by simp) (by (repeat' (first | (with_reducible refine blk_drew ?_) | (with_reducible refine Blk.new_at ?_ _ _) | (simp; done)))) HZ.out.2 HZ.out.1) ?_); rintro r w3 ⟨rfl, rfl⟩))
          all_goals
            go_wp2_with fail
            go_roundw
            case rel =>
              (repeat apply Exists.intro)
              refine ⟨⟨m + 1, by omega, by go_num, by have := hBq; go_grown, ?_⟩, rfl⟩
              have := HR.out.set_ m (z : Int)
              rw [← ints_set] at this
              rw [HS1.out]
              exact Lib.hid (Row.alloc this (.cells #[.int .i64 x, .int .i64 y] 3))
            case measure => simp [intOf]; omega
        · obtain rfl : m = 8 := by omega
          have hle : ((ints (stepS ⟨a, b, c, d, e, f, g, h⟩ s)).map vI).toArray.size = 8 := by simp [ints, stepS, addTo_len]
          have hone : ((ints (stepS ⟨a, b, c, d, e, f, g, h⟩ s)).map vI).toArray.all (·.oneCell') = true := all_oneCell_toArray (fun v hv => spread_one hv)
          have hT7 : Blk wr (w2.heap.size + 1) 90 ((ints (stepS ⟨a, b, c, d, e, f, g, h⟩ s)).map vI).toArray := by
            have := HR.out
            rw [stepS, HTn.out]
            exact this
          have hX := HXr.out wr hBq
          generalize hTT : ((ints (stepS ⟨a, b, c, d, e, f, g, h⟩ s)).map vI).toArray = R at hle hone hT7
          have HTT := Lib.hid hTT
          have hBw := hB2.trans (hBq.mono hB2.size)
          clear hTT
          go_wp2_with (first
            | (refine wpList_load_row rfl 90 (.tmp 7) rfl (w2.heap.size + 1) rfl 90 R (0, 0) (.array 8 3) hT7 (by kernel_rfl) rfl (by rw [hle]; kernel_rfl) ?_)
            | (refine wpList_store_row rfl 90 (.tmp 4) (.tmp 128) rfl (w.heap.size + 1) R rfl rfl 90 #[.int .i64 0, .int .i64 0, .int .i64 0, .int .i64 0, .int .i64 0, .int .i64 0, .int .i64 0, .int .i64 0] hX (by rw [hle]; kernel_rfl) (by rw [hle]; rfl) hone ?_)
            | (with_reducible refine end_at ?_))
          refine end_ret (results_row_tmp (Tryz.results38) _ _ (w.heap.size + 1) 90 R (0, 0) (.array 8 3) (.bool true) rfl rfl (setRow_heap _ _ _ _ _ _ hX) (by kernel_rfl) rfl (by rw [hle]; kernel_rfl)) rfl ?_
          exact ⟨by rw [HTT.out], below_setRow hBw (by omega) _⟩
end Go.Proofs.YtpkomloblhbkiaaGreatDoor
/- digest: Pad, Start. -/
namespace Go.Proofs.YtpkomloblhbkiaaGreatDoor
open Go.RowKit
def lenV (v : Value) : Nat := match v with | .slice _ n _ => n | _ => 0
theorem ofNat_mod (x : Nat) : vB (UInt8.ofNat (x % 256)) = .int .u8 ((x % 256 : Nat) : Int) := by
  unfold vB
  have : (UInt8.ofNat (x % 256)).toNat = x % 256 := by simp
  rw [this]
theorem pad_no (n : Int) (w : World) (h : n < 0 ∨ 1000000000 < n) :
    Calls Tryz.prog 35 #[.int .i64 n] w fun e w' => e = .returned (.tuple #[.string ByteArray.empty, .bool false]) ∧ w = w' := by
  rcases h with h | h
  · go_enter Tryz.func35, Tryz.ntmps35
    go_wp2
    go_ret2
    exact ⟨rfl, rfl⟩
  · have h0 : 0 ≤ n := by omega
    go_enter Tryz.func35, Tryz.ntmps35
    go_wp2
    go_ret2
    exact ⟨rfl, rfl⟩
set_option maxHeartbeats 400000 in
set_option maxRecDepth 100000 in
theorem pad_in (n : Nat) (w : World) (h : n ≤ 1000000000) :
    Calls Tryz.prog 35 #[.int .i64 n] w fun e w' => e = .returned (.tuple #[.string (padB n), .bool true]) ∧ Below w.heap.size w w' := by
  obtain ⟨z, hz⟩ : ∃ z, padZ n = z := ⟨_, rfl⟩
  have hz2 : z < 64 := by rw [← hz, padZ]; omega
  have hz3 : (n + z + 9) % 64 = 0 := by rw [← hz, padZ]; omega
  have hz4 : ∀ k, k < z → (n + k + 9) % 64 ≠ 0 := by intro k hk; rw [← hz, padZ] at hk; omega
  have HZ := Lib.hid (And.intro hz (And.intro hz3 hz4))
  clear hz hz3 hz4
  go_enter Tryz.func35, Tryz.ntmps35
  go_wp2_with fail
  have hR0 : BRow (w.alloc (.cells #[.int .u8 128] 5)) w.heap.size (.slice (some ⟨w.heap.size, 0, none⟩) 1 1) (128 :: List.replicate 0 0) := brow_new w (Nat.le_refl _) [128] (Blk.new w _ _) (by decide)
  go_loopw [4] (fun v wr => ∃ (k m : Nat) (A : Option Addr) (c : Nat), v = .slice A m c ∧ Hid (m = k + 1) ∧ k ≤ z ∧ Hid (BRow wr w.heap.size (.slice A m c) (128 :: List.replicate k 0)) ∧ Below w.heap.size w wr) (fun v _ => 100 - lenV v)
  case atStart => exact ⟨0, 1, _, _, rfl, rfl, by omega, hR0, by go_grown⟩
  case round =>
    obtain ⟨k, m, A, c, rfl, HM, hk, HR, hB⟩ := hrel
    have hm1 : m ≤ 64 := by have := HM.out; omega
    clear hR0
    have hsz := hB.size
    by_cases hlt : k < z
    · have t := HZ.out.2.2 k hlt
      have t1 : ((n : Int) + (m : Int) + 8) % 64 ≠ 0 := by have := HM.out; omega
      have t2 : (((n : Int) + (m : Int) + 8) % 64 != 0) = true := by simpa using t1
      clear t t1
      have HE : Hid ((128 :: List.replicate k 0) ++ [0] = (128 :: List.replicate (k + 1) 0 : List UInt8)) := Lib.hid (by rw [List.replicate_succ', List.cons_append])
      have HL : Hid ((128 :: List.replicate k 0 : List UInt8).length = m) := Lib.hid (by have := HM.out; simp; omega)
      go_wp2_with (at_builtin; go_loud (refine wpList_append_byte rfl (.tmp 20) (.tmp 21) rfl rfl (brow_alloc HR.out _) wr.heap.size 0 _ rfl (Blk.new wr _ _) rfl m HL.out (128 :: List.replicate (k + 1) 0) HE.out (by omega) (by simp; omega) ?_); intro A1 c1 w1 HR1 hg1 hb1)
      clear hg1
      go_roundw
      case rel => exact ⟨k + 1, m + 1, A1, c1, rfl, Lib.hid (by rw [HM.out]), by omega, HR1, Below.trans (by go_grown) hb1⟩
      case measure => simp [lenV]; omega
    · obtain rfl : k = z := by omega
      have t := HZ.out.2.1
      have t1 : ((n : Int) + (m : Int) + 8) % 64 = 0 := by have := HM.out; omega
      have t2 : (((n : Int) + (m : Int) + 8) % 64 != 0) = false := by simpa using t1
      have HR0 : Hid (BRow wr w.heap.size (.slice A m c) (padL n 0)) := by
        refine Lib.hid ?_
        unfold padL
        rw [HZ.out.1]
        simpa using HR.out
      clear t t1 HR
      go_wp2_with fail
      clear t2
      obtain ⟨wo, rfl⟩ : ∃ wo : World, wo = wr := ⟨_, rfl⟩
      go_loopw [4, 23] (fun v iv wr => ∃ (i j : Nat) (A : Option Addr) (c : Nat), i ≤ 8 ∧ iv = .int .i64 i ∧ v = .slice A j c ∧ Hid (j = m + i) ∧ Hid (BRow wr w.heap.size (.slice A j c) (padL n i)) ∧ Below w.heap.size w wr) (fun _ iv _ => 8 - (intOf iv).toNat)
      case atStart => exact ⟨0, m, A, c, by omega, rfl, rfl, rfl, HR0, hB⟩
      case round =>
        obtain ⟨i, j, A, c, hi, rfl, rfl, HJ, HR, hB⟩ := hrel
        have hj2 : j ≤ 72 := by have := HJ.out; omega
        have hsz := hB.size
        by_cases hlt : i < 8
        · obtain ⟨sh, hsh⟩ : ∃ sh, 56 - 8 * i = sh := ⟨_, rfl⟩
          have e1 : (56 : Int) - 8 * (i : Int) = (sh : Int) := by omega
          have hs64 : sh ≤ 56 := by omega
          have HV : Hid (Value.int .u8 ((8 * (n : Int)) / 2 ^ sh % 256) = vB (UInt8.ofNat (8 * n / 2 ^ (56 - 8 * i) % 256))) := Lib.hid (by rw [hsh, ofNat_mod]; simp)
          have hlen : (padL n i).length = j := by have := HJ.out; have := HM.out; unfold padL; rw [HZ.out.1]; simp; omega
          have HL := Lib.hid hlen
          have HE : Hid (padL n i ++ [UInt8.ofNat (8 * n / 2 ^ (56 - 8 * i) % 256)] = padL n (i + 1)) := Lib.hid (by unfold padL; rw [List.range_succ]; simp)
          clear hsh hlen
          go_wp2_with (at_builtin; go_loud (refine wpList_append_byte rfl (.tmp 26) (.tmp 34) rfl rfl (brow_alloc HR.out _) wr.heap.size (UInt8.ofNat (8 * n / 2 ^ (56 - 8 * i) % 256)) _ rfl (Blk.new wr _ _) HV.out j HL.out (padL n (i + 1)) HE.out (by omega) (by simp; omega) ?_); intro A1 c1 w1 HR1 hg1 hb1)
          clear hg1
          go_roundw
          case rel => exact ⟨i + 1, j + 1, A1, c1, by omega, by go_num, rfl, Lib.hid (by rw [HJ.out]; rfl), HR1, Below.trans (by go_grown) hb1⟩
          case measure => simp [intOf]; omega
        · obtain rfl : i = 8 := by omega
          have hj8 := HJ.out
          have hm8 := HM.out
          have hlen : (padL n 8).length = j := by unfold padL; rw [HZ.out.1]; simp; omega
          have hcv := run_brow 113 9 5 Tryz.underlying113 Tryz.underlying5 Tryz.underlying9 hlen HR.out
          clear hlen hj8 hm8
          go_wp2
          go_ret2
          exact ⟨rfl, hB⟩
theorem start_any (w : World) : Calls Tryz.prog 36 #[] w fun e w' => e = .returned (.agg ((ints startL).map vI).toArray) ∧ Below w.heap.size w w' := by
  go_enter Tryz.func36, Tryz.ntmps36
  go_wp2
  refine bodyPost_ret (v := .agg ((ints startL).map vI).toArray) (by simp [results, Tryz.results36, go_sem, ints, startL, vI]) rfl ⟨rfl, ?_⟩
  go_grown
end Go.Proofs.YtpkomloblhbkiaaGreatDoor
/- digest.Step: for every state and block. -/
namespace Go.Proofs.YtpkomloblhbkiaaGreatDoor
open Go.RowKit
/-- a state as the program bears it -/
def stV (L : List Int) : Value := .agg (L.map vI).toArray
theorem list8 {α : Type} {L : List α} (h : L.length = 8) : ∃ a b c d e f g i, L = [a, b, c, d, e, f, g, i] := by
  match L, h with
  | [a, b, c, d, e, f, g, i], _ => exact ⟨a, b, c, d, e, f, g, i, rfl⟩
theorem step_good (L : List Nat) (s : ByteArray) (w : World) (hs : s.size = 64) (hG : Rounds w) (hL : State L) :
    Calls Tryz.prog 38 #[stV (ints L), .string s] w fun r w' => r = .returned (.tuple #[stV (ints (stepL L s)), .bool true]) ∧ Below w.heap.size w w' := by
  obtain ⟨hl, hw⟩ := hL
  obtain ⟨a, b, c, d, e, f, g, i, rfl⟩ := list8 hl
  exact step_in a b c d e f g i s w hs hG hw
def zero8 : List Int := [0, 0, 0, 0, 0, 0, 0, 0]
theorem slrI {L : List Int} {ty : TypeId} {W : World} {g B : Nat} (hW : Blk W g ty (L.map vI).toArray) (hB : g < B) : SlR encI 1 W B (some ⟨g, 0, none⟩) L.length L := by
  refine SlR.ofC rfl hB ?_
  intro k x hx j v hv
  have hj : j = 0 := by
    have := (List.getElem?_eq_some_iff.1 hv).1
    simp [encI] at this; omega
  subst hj
  simp [encI] at hv
  subst hv
  have := hW.cell k
  rw [Nat.mul_one, Nat.zero_add, Nat.add_zero, this]
  simp [hx, vI]
set_option maxHeartbeats 400000 in
set_option maxRecDepth 100000 in
theorem step_bad (L : List Int) (s : ByteArray) (w : World) (hl : L.length = 8) (hb : L.all isB = false ∨ s.size ≠ 64) :
    Calls Tryz.prog 38 #[stV L, .string s] w fun r w' => r = .returned (.tuple #[stV zero8, .bool false]) ∧ Below w.heap.size w w' := by
  obtain ⟨a, b, c, d, e, f, g, i, rfl⟩ := list8 hl
  obtain ⟨t, ht⟩ : ∃ t, [a, b, c, d, e, f, g, i].all isB = t := ⟨_, rfl⟩
  have HT := Lib.hid ht
  rw [ht] at hb
  clear ht hl
  unfold stV zero8
  simp only [List.map_cons, List.map_nil, vI]
  cases t
  · clear hb
    go_enter Tryz.func38, Tryz.ntmps38
    go_wp2_with fail
    refine (is_any [a, b, c, d, e, f, g, i] _ 8 8 _ (slrI ((Blk.new w _ _).alloc _) (by simp; omega)) (by omega)).mono ?_
    rintro r w1 ⟨rfl, rfl⟩
    rw [HT.out]
    go_wp2
    refine bodyPost_ret (v := .tuple #[.agg #[.int .i64 0, .int .i64 0, .int .i64 0, .int .i64 0, .int .i64 0, .int .i64 0, .int .i64 0, .int .i64 0], .bool false]) (by simp [results, Tryz.results38, go_sem]) rfl ⟨rfl, by go_grown⟩
  · have hne : s.size ≠ 64 := by simpa using hb
    have t1 : ((s.size : Int) != 64) = true := by simp; omega
    clear hb hne
    go_enter Tryz.func38, Tryz.ntmps38
    go_wp2_with fail
    refine (is_any [a, b, c, d, e, f, g, i] _ 8 8 _ (slrI ((Blk.new w _ _).alloc _) (by simp; omega)) (by omega)).mono ?_
    rintro r w1 ⟨rfl, rfl⟩
    rw [HT.out]
    go_wp2
    refine bodyPost_ret (v := .tuple #[.agg #[.int .i64 0, .int .i64 0, .int .i64 0, .int .i64 0, .int .i64 0, .int .i64 0, .int .i64 0, .int .i64 0], .bool false]) (by simp [results, Tryz.results38, go_sem]) rfl ⟨rfl, by go_grown⟩
/-- the state behind a block of whatever size -/
def stepT (L : List Nat) (s : ByteArray) : List Nat := if s.size = 64 then stepL L s else [0, 0, 0, 0, 0, 0, 0, 0]
theorem stepT_state (L : List Nat) (s : ByteArray) : State (stepT L s) := by
  unfold stepT
  split
  · exact stepL_state _ _
  · exact ⟨rfl, by unfold words; decide⟩
theorem step_tot (L : List Nat) (s : ByteArray) (w : World) (hG : Rounds w) (hL : State L) :
    Calls Tryz.prog 38 #[stV (ints L), .string s] w fun r w' => r = .returned (.tuple #[stV (ints (stepT L s)), .bool (decide (s.size = 64))]) ∧ Below w.heap.size w w' := by
  by_cases h : s.size = 64
  · have := step_good L s w h hG hL
    simpa only [stepT, h, if_true, decide_true] using this
  · have := step_bad (ints L) s w (by simpa [ints] using hL.1) (.inr h)
    simp only [stepT, h, if_false, decide_false]
    exact this
end Go.Proofs.YtpkomloblhbkiaaGreatDoor
/- digest.blocks: the parts of a text and of what stands behind it, for whatever loop body. -/
namespace Go.Proofs.YtpkomloblhbkiaaGreatDoor
open Go.RowKit Go.Shelf
attribute [local go_sem] Oper.semAt_some
/-- the parts of 64 bytes -/
def chunkOf (s : ByteArray) (k : Nat) : ByteArray := s.extract (64 * k) (64 * k + 64)
def chunksOf (s : ByteArray) : List ByteArray := (List.range (s.size / 64)).map (chunkOf s)
theorem chunksOf_len (s : ByteArray) : (chunksOf s).length = s.size / 64 := by simp [chunksOf]
theorem chunks_succ (s : ByteArray) {k : Nat} (h : 64 * k + 64 ≤ s.size) : (chunksOf s).take k ++ [chunkOf s k] = (chunksOf s).take (k + 1) := by
  have hl : k < (chunksOf s).length := by rw [chunksOf_len]; omega
  rw [List.take_succ_eq_append_getElem hl]
  simp [chunksOf]
theorem size_extract (s : ByteArray) (i j : Nat) : (s.extract i j).size = min j s.size - i := by simp
theorem rest_chunk (s : ByteArray) (k : Nat) : (s.extract (64 * k) s.size).extract 0 64 = chunkOf s k := by
  rw [ByteArray.extract_extract, Nat.add_zero, extract_clip]; rfl
theorem rest_rest (s : ByteArray) (k : Nat) : (s.extract (64 * k) s.size).extract 64 (s.extract (64 * k) s.size).size = s.extract (64 * (k + 1)) s.size := by
  rw [ByteArray.extract_extract, size_extract, Nat.min_self]
  rcases Nat.le_total (64 * k) s.size with h | h
  · rw [show 64 * k + (s.size - 64 * k) = s.size by omega, Nat.min_self]; rfl
  · rw [show s.size - 64 * k = 0 by omega]
    rw [ByteArray.extract_eq_empty_iff.2 (by omega), ByteArray.extract_eq_empty_iff.2 (by omega)]
theorem chunk_left (s t : ByteArray) {k : Nat} (h : 64 * k + 64 ≤ s.size) : chunkOf s k = chunkOf (s ++ t) k := (extract_left h).symm
theorem rest_join (s t : ByteArray) {k : Nat} (h : 64 * k ≤ s.size) : s.extract (64 * k) s.size ++ t = (s ++ t).extract (64 * k) (s ++ t).size := by
  rw [ByteArray.extract_append, ByteArray.size_append, show 64 * k - s.size = 0 by omega, show s.size + t.size - s.size = t.size by omega, ByteArray.extract_zero_size]
  rw [← extract_clip s (64 * k) (s.size + t.size), show min (s.size + t.size) s.size = s.size by omega]
def sizeV (v : Value) : Nat := match v with | .string s => s.size | _ => 0
theorem blocks_in (F : Fence) (n : Nat) (hf : F.fn 37) (hro : F.round = none) (s b : ByteArray) (w : World) :
    CallsIn F n Tryz.prog 37 #[.string s, .string b] w fun e w' => e = .returned (.func (.func 71) #[] #[.pointer (some ⟨w.heap.size, 0, none⟩), .pointer (some ⟨w.heap.size + 1, 0, none⟩)]) ∧ (w.alloc (.cells #[.string s] 9)).alloc (.cells #[.string b] 9) = w' := by
  refine callsIn_of_wp Tryz.func37 rfl hf ?_ hro
  simp only [Tryz.ntmps37, List.size_toArray, List.length_cons, List.length_nil, Nat.reduceAdd, Nat.reduceSub, Array.replicate_succ, Array.replicate_zero, List.push_toArray, List.append_toArray, List.nil_append, List.cons_append]
  gi_wp2
  go_ret
  exact ⟨rfl, rfl⟩
set_option maxHeartbeats 400000 in
theorem blocks1_in (F : Fence) (n : Nat) (hf : F.fn 71) (hro : F.round = none) (hn : 1 ≤ n) (l B1 B2 : Nat) (s b : ByteArray) (J Jx : List ByteArray → World → Prop) (Kp : World → World → Prop) (hKr : ∀ A, Kp A A) (hKt : ∀ A B C, Kp A B → Kp B C → Kp A C) (hKc : ∀ A B, Kp A B → B.cell? ⟨B2, 0, none⟩ = A.cell? ⟨B2, 0, none⟩)
    (hY : ∀ pre x W, J pre W → pre.length < (chunksOf (s ++ b)).length → YieldAt F (n - 1) Tryz.prog l #[.string x] W fun e W' =>
      (e = .returned (.bool true) ∧ J (pre ++ [x]) W' ∧ Kp W W') ∨ (e = .returned (.bool false) ∧ Jx (pre ++ [x]) W'))
    (W : World) (h1 : W.cell? ⟨B1, 0, none⟩ = some (.string s)) (h2 : W.cell? ⟨B2, 0, none⟩ = some (.string b)) (hw : (s.size + b.size) % 64 = 0) (hs : s.size ≤ 1000000000) (hb : b.size ≤ 72) (h0 : J [] W) :
    CallsIn F n Tryz.prog 71 #[.func (.yield l) #[] #[], .pointer (some ⟨B1, 0, none⟩), .pointer (some ⟨B2, 0, none⟩)] W fun e W' => (∃ v, e = .returned v) ∧
      ((∃ ys, ys = chunksOf (s ++ b) ∧ J ys W') ∨ (∃ pre, pre <+: chunksOf (s ++ b) ∧ Jx pre W')) := by
  have HY := Lib.hid hY
  have HK := Lib.hid hKt
  have HKc := Lib.hid hKc
  have HS := Lib.hid (And.intro hw (And.intro hs hb))
  have H2 := Lib.hid h2
  clear hY hw hs hb h2 hKt hKc
  refine callsIn_of_wp Tryz.func71 rfl hf ?_ hro
  simp only [Tryz.ntmps71, List.size_toArray, List.length_cons, List.length_nil, Nat.reduceAdd, Nat.reduceSub, Array.replicate_succ, Array.replicate_zero, List.push_toArray, List.append_toArray, List.nil_append, List.cons_append]
  gi_wp2
  gi_loopw [4] (fun v wr => ∃ (k : Nat) (r : ByteArray), v = .string r ∧ Hid (r = s.extract (64 * k) s.size) ∧ Hid (64 * k + r.size = s.size) ∧ Hid (J ((chunksOf (s ++ b)).take k) wr) ∧ Hid (Kp W wr)) (fun v _ => sizeV v)
  case atStart => exact ⟨0, s, rfl, Lib.hid (by simp), Lib.hid (by omega), by simpa [Hid] using h0, hKr _⟩
  case round =>
    obtain ⟨k, r, rfl, HR, HN, HJ, hB⟩ := hrel
    by_cases hlt : 64 ≤ r.size
    · have hk : 64 * k + 64 ≤ s.size := by have := HN.out; omega
      have HC : Hid (r.extract 0 64 = chunkOf (s ++ b) k) := Lib.hid (by rw [HR.out, rest_chunk, chunk_left _ _ hk])
      have HT : Hid (r.extract 64 r.size = s.extract (64 * (k + 1)) s.size) := Lib.hid (by rw [HR.out, rest_rest])
      obtain ⟨fn, tmps, assign, body, hy, hR⟩ := HY.out _ (r.extract 0 64) wr HJ.out (by rw [List.length_take, chunksOf_len, ByteArray.size_append]; omega)
      have HRR := Lib.hid hR
      clear hR
      gi_wp2
      refine HRR.out.mono ?_
      rintro e W3 (⟨rfl, hJ3, hk3⟩ | ⟨rfl, hJx3⟩)
      · rw [HC.out, chunks_succ _ (by rw [ByteArray.size_append]; omega)] at hJ3
        have HJ3 := Lib.hid hJ3
        clear hJ3
        gi_wp2
        go_roundw
        case rel => exact ⟨k + 1, _, rfl, HT, Lib.hid (by rw [size_extract]; have := HN.out; omega), HJ3, HK.out _ _ _ hB.out hk3⟩
        case measure => simp [sizeV]; omega
      · rw [HC.out, chunks_succ _ (by rw [ByteArray.size_append]; omega)] at hJx3
        have HJ3 := Lib.hid hJx3
        clear hJx3
        gi_wp2
        refine bodyPost_ret (results_none rfl _ _ _) rfl ?_
        exact ⟨⟨_, rfl⟩, .inr ⟨_, List.take_prefix _ _, HJ3⟩⟩
    · have hb2 := (HKc.out _ _ hB.out).trans H2.out
      have HA : Hid (r ++ b = (s ++ b).extract (64 * k) (s ++ b).size) := Lib.hid (by rw [HR.out]; exact rest_join s b (by have := HN.out; omega))
      have HN2 : Hid (64 * k + (r ++ b).size = (s ++ b).size) := Lib.hid (by rw [ByteArray.size_append, ByteArray.size_append]; have := HN.out; omega)
      have hcat : r.size + b.size ≤ 1000000100 := by have := HS.out; have := HN.out; omega
      have HW : Hid ((s ++ b).size % 64 = 0) := Lib.hid (by rw [ByteArray.size_append]; exact HS.out.1)
      obtain ⟨wo, rfl⟩ : ∃ wo : World, wo = wr := ⟨_, rfl⟩
      gi_wp2
      gi_loopw [4] (fun v wr => ∃ (k : Nat) (r : ByteArray), v = .string r ∧ Hid (r = (s ++ b).extract (64 * k) (s ++ b).size) ∧ Hid (64 * k + r.size = (s ++ b).size) ∧ Hid (J ((chunksOf (s ++ b)).take k) wr) ∧ Hid (Kp W wr)) (fun v _ => sizeV v)
      case atStart => exact ⟨k, _, rfl, HA, HN2, HJ, hB⟩
      case round =>
        clear hb2 HA HN2 hcat
        obtain ⟨k, r, rfl, HR, HN, HJ, hB⟩ := hrel
        by_cases hz : r.size = 0
        · obtain rfl : r = ByteArray.empty := ByteArray.size_eq_zero_iff.1 hz
          have HD : Hid ((chunksOf (s ++ b)).take k = chunksOf (s ++ b)) := Lib.hid (List.take_of_length_le (by rw [chunksOf_len]; have := HN.out; rw [ByteArray.size_empty] at this; omega))
          clear hz hlt
          gi_wp2
          go_end0
          exact ⟨⟨_, rfl⟩, .inl ⟨_, rfl, by have := HJ.out; rwa [HD.out] at this⟩⟩
        · have hk : 64 * k + 64 ≤ (s ++ b).size := by have := HN.out; have := HW.out; omega
          have hne : r.toList.isEmpty = false := by
            cases h : r.toList with
            | nil =>
              exfalso; apply hz
              rw [Lib.toList_data] at h
              have : r.data.toList.length = 0 := by rw [h]; rfl
              simpa using this
            | cons a b => rfl
          have hsz : 64 ≤ r.size := by have := HN.out; omega
          have HC : Hid (r.extract 0 64 = chunkOf (s ++ b) k) := Lib.hid (by rw [HR.out, rest_chunk])
          have HT : Hid (r.extract 64 r.size = (s ++ b).extract (64 * (k + 1)) (s ++ b).size) := Lib.hid (by rw [HR.out, rest_rest])
          obtain ⟨fn, tmps, assign, body, hy, hR⟩ := HY.out _ (r.extract 0 64) wr HJ.out (by rw [List.length_take, chunksOf_len]; omega)
          have HRR := Lib.hid hR
          clear hR hz hlt
          gi_wp2
          refine HRR.out.mono ?_
          rintro e W3 (⟨rfl, hJ3, hk3⟩ | ⟨rfl, hJx3⟩)
          · rw [HC.out, chunks_succ _ hk] at hJ3
            have HJ3 := Lib.hid hJ3
            clear hJ3
            gi_wp2
            go_roundw
            case rel => exact ⟨k + 1, _, rfl, HT, Lib.hid (by rw [size_extract]; have := HN.out; omega), HJ3, HK.out _ _ _ hB.out hk3⟩
            case measure => simp [sizeV]; omega
          · rw [HC.out, chunks_succ _ hk] at hJx3
            have HJ3 := Lib.hid hJx3
            clear hJx3
            gi_wp2
            refine bodyPost_ret (results_none rfl _ _ _) rfl ?_
            exact ⟨⟨_, rfl⟩, .inr ⟨_, List.take_prefix _ _, HJ3⟩⟩
end Go.Proofs.YtpkomloblhbkiaaGreatDoor
namespace Go.Proofs.YtpkomloblhbkiaaGreatDoor
open Go.RowKit Go.Shelf
theorem keepsOthers_setCell (w : World) (g o : Nat) (u : Value) (old : Array Value) (t : TypeId) (fr : Nat × Nat) (hg : w.heap[g]? = some (.cells old t fr)) : KeepsOthers w (w.setCell ⟨g, o, none⟩ u) :=
  ⟨by simp [World.setCell], fun k ob hk ho => by
    by_cases e : k = g
    · subst e
      rw [hg] at hk
      injection hk with hk
      subst hk
      simp [Obj.isCells] at ho
    · exact (Below.heap_setCell w ⟨g, o, none⟩ u k (fun h => e h)).trans hk⟩
theorem keepsOthers_below {w w' : World} (h : Below w.heap.size w w') : KeepsOthers w w' :=
  ⟨h.size, fun k o hk _ => (h.block k (Array.getElem?_eq_some_iff.1 hk).1).trans hk⟩
/-- a block of cells is kept by what writes to no block of cells -/
theorem blk_kept {W W' : World} {row : Option Nat} {g : Nat} {t : TypeId} {cs : Array Value} (h : Blk W g t cs) (hg : W.grownBy W' row) (hr : ∀ r, row = some r → ∃ o : Obj, W.heap[r]? = some o ∧ o.isCells = false) : Blk W' g t cs := by
  refine h.grown hg (fun e => ?_)
  obtain ⟨o, ho, hc⟩ := hr g e.symm
  unfold Blk at h
  rw [h] at ho
  injection ho with ho
  subst ho
  simp [Obj.isCells] at hc
/-- block B is left as it was -/
def Kept (B : Nat) (W W' : World) : Prop := W'.heap[B]? = W.heap[B]?
theorem Kept.refl (B : Nat) (W : World) : Kept B W W := rfl
theorem Kept.trans {B : Nat} {W W' W'' : World} (h : Kept B W W') (k : Kept B W' W'') : Kept B W W'' := Eq.trans k h
theorem Kept.below {B n : Nat} {W W' : World} (h : Below n W W') (hB : B < n) : Kept B W W' := h.block B hB
theorem Kept.setCell {B g : Nat} {W : World} (h : B ≠ g) (o : Nat) (u : Value) : Kept B W (W.setCell ⟨g, o, none⟩ u) := Below.heap_setCell W ⟨g, o, none⟩ u B h
theorem Kept.cell {B : Nat} {W W' : World} (h : Kept B W W') (o : Nat) : W'.cell? ⟨B, o, none⟩ = W.cell? ⟨B, o, none⟩ := World.cell?_of_block h
end Go.Proofs.YtpkomloblhbkiaaGreatDoor
