/- twin.Put. -/
import Derived.Test.YtpkomloblhbkiaaGreatDoorTwinEn
import Derived.Test.YtpkomloblhbkiaaGreatDoorTwinA
set_option linter.unusedVariables false
/- twin.do, at the deeds of a Put: more than there are. -/
namespace Go.Proofs.YtpkomloblhbkiaaGreatDoor
open Go.RowKit
set_option maxHeartbeats 4000000 in
set_option maxRecDepth 100000 in
theorem do_big (p : Plat) (i1 : Int) (s1 : ByteArray) (i2 : Int) (s2 : ByteArray) (a1 b1 a2 b2 g B : Nat) (A A' : Option Addr) (n m c d : Nat) (most : Int) (hbig : 4 < most) (w : World) (hB : B ≤ w.heap.size)
    (HR : Hid (w.ownsRow B 9 1 (.slice A p.sectors.length c) p.sectors.length (flat encS p.sectors) ∧ w.ownsRow B 159 2 (.slice A' p.cache.length d) p.cache.length (flat encP p.cache)))
    (HW1 : WrOk w a1 b1 i1 s1) (HW2 : WrOk w a2 b2 i2 s2) (HD : Hid (Blk w g 147 #[.func (.func 82) #[] #[.pointer (some ⟨a1, 0, none⟩), .pointer (some ⟨b1, 0, none⟩)], .func (.func 86) #[] #[], .func (.func 82) #[] #[.pointer (some ⟨a2, 0, none⟩), .pointer (some ⟨b2, 0, none⟩)], .func (.func 86) #[] #[]])) :
    Calls Tryz.prog 84 #[.agg #[.slice A p.sectors.length c, .slice A' p.cache.length d], .int .i64 most, .slice (some ⟨g, 0, none⟩) 4 4] w (OutDo B w (doN p i1 s1 i2 s2 4)) := by
  skip
  have HER : Hid (∀ (k : Nat) (q1 : Plat) (er : Int), k < 4 → doTo p i1 s1 i2 s2 (k + 1) = (q1, er) → er ≠ 0 → doN p i1 s1 i2 s2 4 = (noPlat, false, er)) := fun k q1 er hk h1 h2 => doN_bad hk h1 h2
  have HOK : Hid (∀ q : Plat, doTo p i1 s1 i2 s2 4 = (q, 0) → doN p i1 s1 i2 s2 4 = (q, decide (4 = 4), 0)) := fun q h => doN_ok h
  go_enter Tryz.func84, Tryz.ntmps84
  go_wp2_with fail
  have hX0 : Blk ((w.alloc (.cells #[.slice A p.sectors.length c, .slice A' p.cache.length d] 42)).alloc (.cells #[.slice none 0 0, .slice none 0 0] 42)) w.heap.size 42 #[.slice A p.sectors.length c, .slice A' p.cache.length d] := (Blk.new w _ _).alloc _
  have hY0 : Blk ((w.alloc (.cells #[.slice A p.sectors.length c, .slice A' p.cache.length d] 42)).alloc (.cells #[.slice none 0 0, .slice none 0 0] 42)) (w.heap.size + 1) 42 #[.slice none 0 0, .slice none 0 0] := Blk.new_at (by simp) _ _
  go_loopw [27] (fun i wr => ∃ (k : Nat) (q : Plat) (A : Option Addr) (c : Nat) (A' : Option Addr) (c' : Nat), k ≤ 4 ∧ i = .int .i64 k ∧ Hid (doTo p i1 s1 i2 s2 k = (q, 0)) ∧ Below w.heap.size w wr ∧ Blk wr w.heap.size 42 #[.slice A q.sectors.length c, .slice A' q.cache.length c'] ∧ Blk wr (w.heap.size + 1) 42 #[.slice none 0 0, .slice none 0 0] ∧ Hid (wr.ownsRow B 9 1 (.slice A q.sectors.length c) q.sectors.length (flat encS q.sectors) ∧ wr.ownsRow B 159 2 (.slice A' q.cache.length c') q.cache.length (flat encP q.cache))) (fun i _ => 4 - (intOf i).toNat)
  case atStart => exact ⟨0, p, A, c, A', d, Nat.zero_le _, rfl, rfl, by go_grown, hX0, hY0, ⟨(HR.out.1.alloc _).alloc _, (HR.out.2.alloc _).alloc _⟩⟩
  case round =>
    obtain ⟨k, q, A, c, A', c', hk, rfl, HQ, hBr, hX, hY, HO⟩ := hrel
    rename_i wr _ _
    clear hX0 hY0
    by_cases hlt : k < 4
    · have HST := Lib.hid (doTo_next HQ.out)
      have hd := HD.out.below hBr HD.out.lt
      have HW1 := HW1.on hBr
      have HW2 := HW2.on hBr
      have HPq : PlatPre wr A q.sectors.length A' q.cache.length q := by
        obtain ⟨A6, c6, A6', c6', hv, h⟩ := PlatOut.at_ (B := B) (v := .agg #[.slice A q.sectors.length c, .slice A' q.cache.length c']) ⟨A, c, A', c', rfl, HO.out.1, HO.out.2⟩
        injection hv with hv
        injection hv with hv
        injection hv with hv1 hv2
        injection hv2 with hv2 _
        injection hv1 with hv1
        injection hv2 with hv2
        subst hv1; subst hv2
        exact h
      have x0 := hX.cells 0 _ rfl
      have x1 := hX.cells 1 _ rfl
      simp only [List.getElem_toArray, List.getElem_cons_zero, List.getElem_cons_succ] at x0 x1
      have hzr := hBr.size
      clear HO
      have hk4 : k < 4 := by omega
      have hkc : k = 0 ∨ k = 1 ∨ k = 2 ∨ k = 3 := by omega
      rcases hkc with rfl | rfl | rfl | rfl

      · have dk := hd.cells 0 _ rfl
        simp only [List.getElem_toArray, List.getElem_cons_zero] at dk
        rw [show deedF i1 s1 i2 s2 0 q = writeF q i1 s1 from rfl] at HST
        generalize hcl : writeF q i1 s1 = R at HST
        have HCL := Lib.hid hcl
        clear hcl hd
        obtain ⟨q1, er⟩ := R
        go_wp2_with fail
        refine (put11_any q i1 s1 a1 b1 A A' _ _ c c' _ (HPq.step (by go_grown)) (HW1.on (by go_grown))).mono ?_
        rintro e w5 ⟨v, rfl, ⟨A5, c5, A5', c5', rfl, ho1, ho2⟩, hb5⟩
        rw [HCL.out] at ho1 ho2 ⊢
        have hX5 := hX.below hb5 hX.lt
        have hY5 := hY.below hb5 hY.lt
        have hB5 := hBr.trans (hb5.mono hBr.size)
        have ho1 := own_base (base' := B) ho1 (by have := hBr.size; omega)
        have ho2 := own_base (base' := B) ho2 (by have := hBr.size; omega)
        have HO5 := Lib.hid (And.intro ho1 ho2)
        have x0 := hX5.cells 0 _ rfl
        have x1 := hX5.cells 1 _ rfl
        have xf := hX5.frozen
        have hxl := hX5.lt
        have y0 := hY5.cells 0 _ rfl
        have y1 := hY5.cells 1 _ rfl
        have yf := hY5.frozen
        have hyl := hY5.lt
        simp only [List.getElem_toArray, List.getElem_cons_zero, List.getElem_cons_succ] at x0 x1 y0 y1
        have HX5 := Lib.hid (And.intro hX5 hY5)
        clear ho1 ho2 hb5 hX hY hBr HPq hX5 hY5 dk
        by_cases her : er = 0
        · subst her
          go_wp2_with fail
          go_roundw
          case rel =>
            refine ⟨0 + 1, q1, A5, c5, A5', c5', by omega, by go_num, HST, ?_, ?_, ?_, ?_⟩
            · have := hB5
              go_grown
            · have := (((HX5.out.1.set_ 0 (.slice A5 q1.sectors.length c5)).set_ 1 (.slice A5' q1.cache.length c5'))).alloc (.cells #[.slice A5 q1.sectors.length c5, .slice A5' q1.cache.length c5'] 42)
              simpa using this
            · exact ((HX5.out.2.far (p := ⟨w.heap.size, 0, none⟩) (by simp) _).far (p := ⟨w.heap.size, 1, none⟩) (by simp) _).alloc _
            · have h1 := HO5.out.1
              have h2 := HO5.out.2
              have n1 := own_blk_ne h1 HX5.out.1 (by decide)
              have n2 := own_blk_ne h2 HX5.out.1 (by decide)
              exact ⟨(own_far (own_far h1 n1 _ _) n1 _ _).alloc _, (own_far (own_far h2 n2 _ _) n2 _ _).alloc _⟩
          case measure => simp [intOf] <;> omega
        · have t1 : (er != 0) = true := by simpa using her
          have HE := Lib.hid (HER.out 0 q1 er (by omega) HST her)
          clear her
          go_wp2_with (with_reducible refine end_at ?_)
          refine end_ret (v := .tuple #[.agg #[.slice none 0 0, .slice none 0 0], .bool false, .int .i64 er]) (by simp [results, Tryz.results84, go_sem, y0, y1, hyl]; try rfl) rfl ?_
          refine ⟨_, by rw [HE.out], ?_, ?_⟩
          · rw [HE.out]; exact ⟨none, 0, none, 0, rfl, World.ownsRow_nil _ _ _ _, World.ownsRow_nil _ _ _ _⟩
          · have := hB5
            go_grown
      · have dk := hd.cells 1 _ rfl
        simp only [List.getElem_toArray, List.getElem_cons_zero, List.getElem_cons_succ] at dk
        rw [show deedF i1 s1 i2 s2 1 q = syncF q from rfl] at HST
        generalize hcl : syncF q = R at HST
        have HCL := Lib.hid hcl
        clear hcl hd
        obtain ⟨q1, er⟩ := R
        go_wp2_with fail
        refine (sync_any q A A' _ _ c c' _ (HPq.step (by go_grown))).mono ?_
        rintro e w5 ⟨v, rfl, ⟨A5, c5, A5', c5', rfl, ho1, ho2⟩, hb5⟩
        rw [HCL.out] at ho1 ho2 ⊢
        have hX5 := hX.below hb5 hX.lt
        have hY5 := hY.below hb5 hY.lt
        have hB5 := hBr.trans (hb5.mono hBr.size)
        have ho1 := own_base (base' := B) ho1 (by have := hBr.size; omega)
        have ho2 := own_base (base' := B) ho2 (by have := hBr.size; omega)
        have HO5 := Lib.hid (And.intro ho1 ho2)
        have x0 := hX5.cells 0 _ rfl
        have x1 := hX5.cells 1 _ rfl
        have xf := hX5.frozen
        have hxl := hX5.lt
        have y0 := hY5.cells 0 _ rfl
        have y1 := hY5.cells 1 _ rfl
        have yf := hY5.frozen
        have hyl := hY5.lt
        simp only [List.getElem_toArray, List.getElem_cons_zero, List.getElem_cons_succ] at x0 x1 y0 y1
        have HX5 := Lib.hid (And.intro hX5 hY5)
        clear ho1 ho2 hb5 hX hY hBr HPq hX5 hY5 dk
        by_cases her : er = 0
        · subst her
          go_wp2_with fail
          go_roundw
          case rel =>
            refine ⟨1 + 1, q1, A5, c5, A5', c5', by omega, by go_num, HST, ?_, ?_, ?_, ?_⟩
            · have := hB5
              go_grown
            · have := (((HX5.out.1.set_ 0 (.slice A5 q1.sectors.length c5)).set_ 1 (.slice A5' q1.cache.length c5'))).alloc (.cells #[.slice A5 q1.sectors.length c5, .slice A5' q1.cache.length c5'] 42)
              simpa using this
            · exact ((HX5.out.2.far (p := ⟨w.heap.size, 0, none⟩) (by simp) _).far (p := ⟨w.heap.size, 1, none⟩) (by simp) _).alloc _
            · have h1 := HO5.out.1
              have h2 := HO5.out.2
              have n1 := own_blk_ne h1 HX5.out.1 (by decide)
              have n2 := own_blk_ne h2 HX5.out.1 (by decide)
              exact ⟨(own_far (own_far h1 n1 _ _) n1 _ _).alloc _, (own_far (own_far h2 n2 _ _) n2 _ _).alloc _⟩
          case measure => simp [intOf] <;> omega
        · have t1 : (er != 0) = true := by simpa using her
          have HE := Lib.hid (HER.out 1 q1 er (by omega) HST her)
          clear her
          go_wp2_with (with_reducible refine end_at ?_)
          refine end_ret (v := .tuple #[.agg #[.slice none 0 0, .slice none 0 0], .bool false, .int .i64 er]) (by simp [results, Tryz.results84, go_sem, y0, y1, hyl]; try rfl) rfl ?_
          refine ⟨_, by rw [HE.out], ?_, ?_⟩
          · rw [HE.out]; exact ⟨none, 0, none, 0, rfl, World.ownsRow_nil _ _ _ _, World.ownsRow_nil _ _ _ _⟩
          · have := hB5
            go_grown
      · have dk := hd.cells 2 _ rfl
        simp only [List.getElem_toArray, List.getElem_cons_zero, List.getElem_cons_succ] at dk
        rw [show deedF i1 s1 i2 s2 2 q = writeF q i2 s2 from rfl] at HST
        generalize hcl : writeF q i2 s2 = R at HST
        have HCL := Lib.hid hcl
        clear hcl hd
        obtain ⟨q1, er⟩ := R
        go_wp2_with fail
        refine (put11_any q i2 s2 a2 b2 A A' _ _ c c' _ (HPq.step (by go_grown)) (HW2.on (by go_grown))).mono ?_
        rintro e w5 ⟨v, rfl, ⟨A5, c5, A5', c5', rfl, ho1, ho2⟩, hb5⟩
        rw [HCL.out] at ho1 ho2 ⊢
        have hX5 := hX.below hb5 hX.lt
        have hY5 := hY.below hb5 hY.lt
        have hB5 := hBr.trans (hb5.mono hBr.size)
        have ho1 := own_base (base' := B) ho1 (by have := hBr.size; omega)
        have ho2 := own_base (base' := B) ho2 (by have := hBr.size; omega)
        have HO5 := Lib.hid (And.intro ho1 ho2)
        have x0 := hX5.cells 0 _ rfl
        have x1 := hX5.cells 1 _ rfl
        have xf := hX5.frozen
        have hxl := hX5.lt
        have y0 := hY5.cells 0 _ rfl
        have y1 := hY5.cells 1 _ rfl
        have yf := hY5.frozen
        have hyl := hY5.lt
        simp only [List.getElem_toArray, List.getElem_cons_zero, List.getElem_cons_succ] at x0 x1 y0 y1
        have HX5 := Lib.hid (And.intro hX5 hY5)
        clear ho1 ho2 hb5 hX hY hBr HPq hX5 hY5 dk
        by_cases her : er = 0
        · subst her
          go_wp2_with fail
          go_roundw
          case rel =>
            refine ⟨2 + 1, q1, A5, c5, A5', c5', by omega, by go_num, HST, ?_, ?_, ?_, ?_⟩
            · have := hB5
              go_grown
            · have := (((HX5.out.1.set_ 0 (.slice A5 q1.sectors.length c5)).set_ 1 (.slice A5' q1.cache.length c5'))).alloc (.cells #[.slice A5 q1.sectors.length c5, .slice A5' q1.cache.length c5'] 42)
              simpa using this
            · exact ((HX5.out.2.far (p := ⟨w.heap.size, 0, none⟩) (by simp) _).far (p := ⟨w.heap.size, 1, none⟩) (by simp) _).alloc _
            · have h1 := HO5.out.1
              have h2 := HO5.out.2
              have n1 := own_blk_ne h1 HX5.out.1 (by decide)
              have n2 := own_blk_ne h2 HX5.out.1 (by decide)
              exact ⟨(own_far (own_far h1 n1 _ _) n1 _ _).alloc _, (own_far (own_far h2 n2 _ _) n2 _ _).alloc _⟩
          case measure => simp [intOf] <;> omega
        · have t1 : (er != 0) = true := by simpa using her
          have HE := Lib.hid (HER.out 2 q1 er (by omega) HST her)
          clear her
          go_wp2_with (with_reducible refine end_at ?_)
          refine end_ret (v := .tuple #[.agg #[.slice none 0 0, .slice none 0 0], .bool false, .int .i64 er]) (by simp [results, Tryz.results84, go_sem, y0, y1, hyl]; try rfl) rfl ?_
          refine ⟨_, by rw [HE.out], ?_, ?_⟩
          · rw [HE.out]; exact ⟨none, 0, none, 0, rfl, World.ownsRow_nil _ _ _ _, World.ownsRow_nil _ _ _ _⟩
          · have := hB5
            go_grown
      · have dk := hd.cells 3 _ rfl
        simp only [List.getElem_toArray, List.getElem_cons_zero, List.getElem_cons_succ] at dk
        rw [show deedF i1 s1 i2 s2 3 q = syncF q from rfl] at HST
        generalize hcl : syncF q = R at HST
        have HCL := Lib.hid hcl
        clear hcl hd
        obtain ⟨q1, er⟩ := R
        go_wp2_with fail
        refine (sync_any q A A' _ _ c c' _ (HPq.step (by go_grown))).mono ?_
        rintro e w5 ⟨v, rfl, ⟨A5, c5, A5', c5', rfl, ho1, ho2⟩, hb5⟩
        rw [HCL.out] at ho1 ho2 ⊢
        have hX5 := hX.below hb5 hX.lt
        have hY5 := hY.below hb5 hY.lt
        have hB5 := hBr.trans (hb5.mono hBr.size)
        have ho1 := own_base (base' := B) ho1 (by have := hBr.size; omega)
        have ho2 := own_base (base' := B) ho2 (by have := hBr.size; omega)
        have HO5 := Lib.hid (And.intro ho1 ho2)
        have x0 := hX5.cells 0 _ rfl
        have x1 := hX5.cells 1 _ rfl
        have xf := hX5.frozen
        have hxl := hX5.lt
        have y0 := hY5.cells 0 _ rfl
        have y1 := hY5.cells 1 _ rfl
        have yf := hY5.frozen
        have hyl := hY5.lt
        simp only [List.getElem_toArray, List.getElem_cons_zero, List.getElem_cons_succ] at x0 x1 y0 y1
        have HX5 := Lib.hid (And.intro hX5 hY5)
        clear ho1 ho2 hb5 hX hY hBr HPq hX5 hY5 dk
        by_cases her : er = 0
        · subst her
          go_wp2_with fail
          go_roundw
          case rel =>
            refine ⟨3 + 1, q1, A5, c5, A5', c5', by omega, by go_num, HST, ?_, ?_, ?_, ?_⟩
            · have := hB5
              go_grown
            · have := (((HX5.out.1.set_ 0 (.slice A5 q1.sectors.length c5)).set_ 1 (.slice A5' q1.cache.length c5'))).alloc (.cells #[.slice A5 q1.sectors.length c5, .slice A5' q1.cache.length c5'] 42)
              simpa using this
            · exact ((HX5.out.2.far (p := ⟨w.heap.size, 0, none⟩) (by simp) _).far (p := ⟨w.heap.size, 1, none⟩) (by simp) _).alloc _
            · have h1 := HO5.out.1
              have h2 := HO5.out.2
              have n1 := own_blk_ne h1 HX5.out.1 (by decide)
              have n2 := own_blk_ne h2 HX5.out.1 (by decide)
              exact ⟨(own_far (own_far h1 n1 _ _) n1 _ _).alloc _, (own_far (own_far h2 n2 _ _) n2 _ _).alloc _⟩
          case measure => simp [intOf] <;> omega
        · have t1 : (er != 0) = true := by simpa using her
          have HE := Lib.hid (HER.out 3 q1 er (by omega) HST her)
          clear her
          go_wp2_with (with_reducible refine end_at ?_)
          refine end_ret (v := .tuple #[.agg #[.slice none 0 0, .slice none 0 0], .bool false, .int .i64 er]) (by simp [results, Tryz.results84, go_sem, y0, y1, hyl]; try rfl) rfl ?_
          refine ⟨_, by rw [HE.out], ?_, ?_⟩
          · rw [HE.out]; exact ⟨none, 0, none, 0, rfl, World.ownsRow_nil _ _ _ _, World.ownsRow_nil _ _ _ _⟩
          · have := hB5
            go_grown
    · obtain rfl : k = 4 := by omega
      have HE := Lib.hid (HOK.out q HQ.out)
      have x0 := hX.cells 0 _ rfl
      have x1 := hX.cells 1 _ rfl
      have hxl := hX.lt
      have y0 := hY.cells 0 _ rfl
      have y1 := hY.cells 1 _ rfl
      have yf := hY.frozen
      have hyl := hY.lt
      simp only [List.getElem_toArray, List.getElem_cons_zero, List.getElem_cons_succ] at x0 x1 y0 y1
      have n1 := own_blk_ne HO.out.1 hY (by decide)
      have n2 := own_blk_ne HO.out.2 hY (by decide)
      clear hX hY
      go_wp2_with (with_reducible refine end_at ?_)
      refine end_ret (v := .tuple #[.agg #[.slice A q.sectors.length c, .slice A' q.cache.length c'], .bool true, .int .i64 0]) (by simp [results, Tryz.results84, go_sem, y0, y1]; try rfl) rfl ?_
      refine ⟨.agg #[.slice A q.sectors.length c, .slice A' q.cache.length c'], by (rw [HE.out]; simp), ?_, ?_⟩
      · rw [HE.out]; exact ⟨A, c, A', c', rfl, own_far (own_far HO.out.1 n1 _ _) n1 _ _, own_far (own_far HO.out.2 n2 _ _) n2 _ _⟩
      · have := hBr
        go_grown
end Go.Proofs.YtpkomloblhbkiaaGreatDoor
namespace Go.Proofs.YtpkomloblhbkiaaGreatDoor
open Go.RowKit
theorem do_any (p : Plat) (i1 : Int) (s1 : ByteArray) (i2 : Int) (s2 : ByteArray) (a1 b1 a2 b2 g B : Nat) (v : Value) (most : Int) (w : World) (hB : B ≤ w.heap.size) (hv : PlatOut w B v p)
    (HW1 : WrOk w a1 b1 i1 s1) (HW2 : WrOk w a2 b2 i2 s2) (HD : Hid (Blk w g 147 #[.func (.func 82) #[] #[.pointer (some ⟨a1, 0, none⟩), .pointer (some ⟨b1, 0, none⟩)], .func (.func 86) #[] #[], .func (.func 82) #[] #[.pointer (some ⟨a2, 0, none⟩), .pointer (some ⟨b2, 0, none⟩)], .func (.func 86) #[] #[]])) :
    Calls Tryz.prog 84 #[v, .int .i64 most, .slice (some ⟨g, 0, none⟩) 4 4] w (OutDo B w (doN p i1 s1 i2 s2 (mostN most))) := by
  obtain ⟨A, c, A', c', rfl, h1, h2⟩ := hv
  unfold mostN
  by_cases hm : 0 ≤ most ∧ most ≤ 4
  · rw [if_pos hm]
    obtain ⟨N, rfl⟩ := Int.eq_ofNat_of_zero_le hm.1
    rw [Int.toNat_natCast]
    exact do_in p i1 s1 i2 s2 a1 b1 a2 b2 g B A A' 0 0 c c' N (by omega) w hB ⟨h1, h2⟩ HW1 HW2 HD
  · rw [if_neg hm]
    by_cases h0 : most < 0
    · exact do_neg p i1 s1 i2 s2 a1 b1 a2 b2 g B A A' 0 0 c c' most h0 w hB ⟨h1, h2⟩ HW1 HW2 HD
    · exact do_big p i1 s1 i2 s2 a1 b1 a2 b2 g B A A' 0 0 c c' most (by omega) w hB ⟨h1, h2⟩ HW1 HW2 HD
/-- the other mark than what was read -/
def markF (old : ByteArray) : ByteArray := if old.toList = [48] then ⟨#[49]⟩ else ⟨#[48]⟩
def putF (p : Plat) (i : Int) (s : ByteArray) (most : Int) : Plat × Bool × Int :=
  if (getF p i).2.2 = 0 then doN p (i + (bodyF (markF (readF p i).1)).1) s i (markF (readF p i).1) (mostN most) else (noPlat, false, (getF p i).2.2)
theorem get_read {p : Plat} {i : Int} (h : (getF p i).2.2 = 0) : (readF p i).2 = 0 := by
  unfold getF at h
  by_cases hr : (readF p i).2 = 0
  · exact hr
  · rw [if_neg hr] at h; exact absurd h hr
theorem PlatOut.base {w : World} {B B' : Nat} {v : Value} {p : Plat} (h : PlatOut w B v p) (hb : B' ≤ B) : PlatOut w B' v p := by
  obtain ⟨A, c, A', c', e, h1, h2⟩ := h
  exact ⟨A, c, A', c', e, own_base h1 hb, own_base h2 hb⟩
theorem PlatOut.on {w w1 : World} {B : Nat} {v : Value} {p : Plat} (h : PlatOut w B v p) (hb : Below w.heap.size w w1) : PlatOut w1 B v p := by
  obtain ⟨A, c, A', c', e, h1, h2⟩ := h
  exact ⟨A, c, A', c', e, own_below h1 hb (Nat.le_refl _), own_below h2 hb (Nat.le_refl _)⟩
set_option maxHeartbeats 1000000 in
set_option maxRecDepth 100000 in
theorem put_bad (p : Plat) (i : Int) (s : ByteArray) (most : Int) (A A' : Option Addr) (n m c d : Nat) (w : World) (HP : PlatPre w A n A' m p) (hg : (getF p i).2.2 ≠ 0) :
    Calls Tryz.prog 41 #[.agg #[.slice A n c, .slice A' m d], .int .i64 i, .string s, .int .i64 most] w (OutDo w.heap.size w (putF p i s most)) := by
  have HF : Hid (putF p i s most = (noPlat, false, (getF p i).2.2)) := by unfold Hid putF; rw [if_neg hg]
  generalize hr : getF p i = r at *
  have HR := Lib.hid hr
  obtain ⟨t, ok, er⟩ := r
  dsimp only at hg HF
  have t1 : (er != 0) = true := by simpa using hg
  clear hr hg
  go_enter Tryz.func41, Tryz.ntmps41
  go_wp2_with fail
  refine (get_any p i A A' n m c d _ (HP.step (by go_grown))).mono ?_
  rintro e w1 ⟨rfl, hb1⟩
  rw [HR.out]
  have hY := (Blk.new_at (g := w.heap.size + 1) (by simp) _ _).below hb1 (by simp)
  have hB1 : Below w.heap.size w w1 := Below.trans (by go_grown) (hb1.mono (by simp; omega))
  have y0 := hY.cells 0 _ rfl
  have y1 := hY.cells 1 _ rfl
  have yf := hY.frozen
  have hyl := hY.lt
  simp only [List.getElem_toArray, List.getElem_cons_zero, List.getElem_cons_succ] at y0 y1
  clear hb1 hY
  go_wp2_with (with_reducible refine end_at ?_)
  refine end_ret (v := .tuple #[.agg #[.slice none 0 0, .slice none 0 0], .bool false, .int .i64 er]) (by simp [results, Tryz.results41, go_sem, y0, y1]; try rfl) rfl ?_
  refine ⟨_, by rw [HF.out], ?_, by go_grown⟩
  rw [HF.out]; exact ⟨none, 0, none, 0, rfl, World.ownsRow_nil _ _ _ _, World.ownsRow_nil _ _ _ _⟩
end Go.Proofs.YtpkomloblhbkiaaGreatDoor
/- twin.Put, where its place is right. -/
namespace Go.Proofs.YtpkomloblhbkiaaGreatDoor
open Go.RowKit
set_option maxHeartbeats 2000000 in
set_option maxRecDepth 100000 in
theorem put_ok0 (p : Plat) (i : Int) (s : ByteArray) (most : Int) (A A' : Option Addr) (n m c d : Nat) (w : World) (HP : PlatPre w A n A' m p) (hg : (getF p i).2.2 = 0) (hm : (readF p i).1.toList = [48]) :
    Calls Tryz.prog 41 #[.agg #[.slice A n c, .slice A' m d], .int .i64 i, .string s, .int .i64 most] w (OutDo w.heap.size w (putF p i s most)) := by
  have hrd := get_read hg
  obtain ⟨hcp, hi0, hin, hi2⟩ := read_pos hrd
  have hn := (HP.step (Below.refl _ _)).1.1
  have hmm := (HP.step (Below.refl _ _)).2.1
  have hm1 : m ≤ 100 := by have := ((checkP_iff p).1 hcp).2.2.1; omega
  have hn1 : n ≤ 200 := by omega
  have hi3 : i < 200 := by omega
  have HF : Hid (putF p i s most = doN p (i + 2) s i ⟨#[49]⟩ (mostN most)) := by
    unfold Hid putF; rw [if_pos hg]
    have : markF (readF p i).1 = ⟨#[49]⟩ := by unfold markF; rw [if_pos hm]
    rw [this]; rfl
  generalize hr : getF p i = r at *
  have HR := Lib.hid hr
  obtain ⟨t, ok, er⟩ := r
  dsimp only at hg
  subst hg
  generalize hr2 : readF p i = r2 at *
  have HR2 := Lib.hid hr2
  obtain ⟨old, er2⟩ := r2
  dsimp only at hrd hm
  subst hrd
  have hq : (old.toList == [48]) = true := by simpa using hm
  generalize hf : putF p i s most = rf at HF ⊢
  clear hr hr2 hcp hin hi2 hn hmm hf hm
  go_enter Tryz.func41, Tryz.ntmps41
  go_wp2_with fail
  refine (get_any p i A A' n m c d _ (HP.step (by go_grown))).mono ?_
  rintro e w1 ⟨rfl, hb1⟩
  rw [HR.out]
  have hX := ((Blk.new w _ _).alloc _).below hb1 (by simp; omega)
  have hY := (Blk.new_at (g := w.heap.size + 1) (by simp) _ _).below hb1 (by simp)
  have hB1 : Below w.heap.size w w1 := Below.trans (by go_grown) (hb1.mono (by simp; omega))
  have x0 := hX.cells 0 _ rfl
  have x1 := hX.cells 1 _ rfl
  simp only [List.getElem_toArray, List.getElem_cons_zero, List.getElem_cons_succ] at x0 x1
  clear hb1
  go_wp2_with fail
  refine (read_any p i A A' n m c d _ (HP.step hB1)).mono ?_
  rintro e w2 ⟨rfl, hb2⟩
  rw [HR2.out]
  have hX2 := hX.below hb2 hX.lt
  have hY2 := hY.below hb2 hY.lt
  have hB2 := hB1.trans (hb2.mono hB1.size)
  clear hb2 hB1 hX hY x0 x1
  go_wp2_with fail
  refine (body_any ⟨#[49]⟩ _ (by decide)).mono ?_
  rintro e w3 ⟨rfl, hb3⟩
  rw [show bodyF ⟨#[49]⟩ = (2, true) from by decide]
  have hX3 := hX2.below hb3 hX2.lt
  have hY3 := hY2.below hb3 hY2.lt
  have hB3 := hB2.trans (hb3.mono hB2.size)
  clear hb3 hB2 hX2 hY2
  have x0 := hX3.cells 0 _ rfl
  have x1 := hX3.cells 1 _ rfl
  simp only [List.getElem_toArray, List.getElem_cons_zero, List.getElem_cons_succ] at x0 x1
  go_wp2_with fail
  refine (tcopied_any p A A' n m c d _ (HP.step hB3) (by omega) (by omega)).mono ?_
  rintro e w4 ⟨v, rfl, hO, hb4⟩
  have hY4 := hY3.below hb4 hY3.lt
  have hB4 := hB3.trans (hb4.mono hB3.size)
  have HO := Lib.hid (hO.base hB3.size)
  clear hb4 hB3 hX3 hY3 x0 x1 hO
  go_wp2_with fail
  refine (put1_any (i + 2) s w4).mono ?_
  rintro e w5 ⟨rfl, rfl⟩
  go_wp2_with fail
  refine (put1_any i ⟨#[49]⟩ _).mono ?_
  rintro e w6 ⟨rfl, rfl⟩
  go_wp2_with fail
  refine (do_any p (i + 2) s i ⟨#[49]⟩ _ _ _ _ _ w.heap.size v most _ (by have := hB4.size; simp; omega) (HO.out.on (by go_grown))
    (WrOk.mk_ (((((Blk.new w4 _ _).alloc _).alloc _).alloc _).alloc _) ((((Blk.new_at (g := w4.heap.size + 1) (by simp) _ _).alloc _).alloc _).alloc _))
    (WrOk.mk_ (((Blk.new_at (g := w4.heap.size + 1 + 1) (by simp) _ _).alloc _).alloc _) ((Blk.new_at (g := w4.heap.size + 1 + 1 + 1) (by simp) _ _).alloc _))
    (Blk.new_at (g := w4.heap.size + 1 + 1 + 1 + 1) (by simp) _ _)).mono ?_
  rintro e w7 ⟨v7, rfl, hO7, hb7⟩
  rw [← HF.out] at hO7 ⊢
  obtain ⟨A7, c7, A7', c7', rfl, h1, h2⟩ := hO7
  have hb7' : Below w4.heap.size w4 w7 := Below.trans (by go_grown) (hb7.mono (by simp; omega))
  have hY7 := hY4.below hb7' hY4.lt
  have hB7 := hB4.trans (hb7'.mono hB4.size)
  have n1 := own_blk_ne h1 hY7 (by decide)
  have n2 := own_blk_ne h2 hY7 (by decide)
  have y0 := hY7.cells 0 _ rfl
  have y1 := hY7.cells 1 _ rfl
  have yf := hY7.frozen
  have hyl := hY7.lt
  simp only [List.getElem_toArray, List.getElem_cons_zero, List.getElem_cons_succ] at y0 y1
  have HO7 := Lib.hid (And.intro (And.intro h1 h2) (And.intro n1 n2))
  clear hb7 hb7' hY4 hB4 hY7 n1 n2 h1 h2 HO HF
  obtain ⟨q, done, eq⟩ := rf
  dsimp only at HO7 ⊢
  go_wp2_with (with_reducible refine end_at ?_)
  refine end_ret (v := .tuple #[.agg #[.slice A7 q.sectors.length c7, .slice A7' q.cache.length c7'], .bool done, .int .i64 eq]) (by simp [results, Tryz.results41, go_sem, y0, y1]; try rfl) rfl ?_
  obtain ⟨⟨h1, h2⟩, n1, n2⟩ := HO7.out
  exact ⟨_, rfl, ⟨A7, c7, A7', c7', rfl, own_far (own_far h1 n1 _ _) n1 _ _, own_far (own_far h2 n2 _ _) n2 _ _⟩, by go_grown⟩
set_option maxHeartbeats 2000000 in
set_option maxRecDepth 100000 in
theorem put_ok1 (p : Plat) (i : Int) (s : ByteArray) (most : Int) (A A' : Option Addr) (n m c d : Nat) (w : World) (HP : PlatPre w A n A' m p) (hg : (getF p i).2.2 = 0) (hm : (readF p i).1.toList ≠ [48]) :
    Calls Tryz.prog 41 #[.agg #[.slice A n c, .slice A' m d], .int .i64 i, .string s, .int .i64 most] w (OutDo w.heap.size w (putF p i s most)) := by
  have hrd := get_read hg
  obtain ⟨hcp, hi0, hin, hi2⟩ := read_pos hrd
  have hn := (HP.step (Below.refl _ _)).1.1
  have hmm := (HP.step (Below.refl _ _)).2.1
  have hm1 : m ≤ 100 := by have := ((checkP_iff p).1 hcp).2.2.1; omega
  have hn1 : n ≤ 200 := by omega
  have hi3 : i < 200 := by omega
  have HF : Hid (putF p i s most = doN p (i + 1) s i ⟨#[48]⟩ (mostN most)) := by
    unfold Hid putF; rw [if_pos hg]
    have : markF (readF p i).1 = ⟨#[48]⟩ := by unfold markF; rw [if_neg hm]
    rw [this]; rfl
  generalize hr : getF p i = r at *
  have HR := Lib.hid hr
  obtain ⟨t, ok, er⟩ := r
  dsimp only at hg
  subst hg
  generalize hr2 : readF p i = r2 at *
  have HR2 := Lib.hid hr2
  obtain ⟨old, er2⟩ := r2
  dsimp only at hrd hm
  subst hrd
  have hq : (old.toList == [48]) = false := by simpa using hm
  generalize hf : putF p i s most = rf at HF ⊢
  clear hr hr2 hcp hin hi2 hn hmm hf hm
  go_enter Tryz.func41, Tryz.ntmps41
  go_wp2_with fail
  refine (get_any p i A A' n m c d _ (HP.step (by go_grown))).mono ?_
  rintro e w1 ⟨rfl, hb1⟩
  rw [HR.out]
  have hX := ((Blk.new w _ _).alloc _).below hb1 (by simp; omega)
  have hY := (Blk.new_at (g := w.heap.size + 1) (by simp) _ _).below hb1 (by simp)
  have hB1 : Below w.heap.size w w1 := Below.trans (by go_grown) (hb1.mono (by simp; omega))
  have x0 := hX.cells 0 _ rfl
  have x1 := hX.cells 1 _ rfl
  simp only [List.getElem_toArray, List.getElem_cons_zero, List.getElem_cons_succ] at x0 x1
  clear hb1
  go_wp2_with fail
  refine (read_any p i A A' n m c d _ (HP.step hB1)).mono ?_
  rintro e w2 ⟨rfl, hb2⟩
  rw [HR2.out]
  have hX2 := hX.below hb2 hX.lt
  have hY2 := hY.below hb2 hY.lt
  have hB2 := hB1.trans (hb2.mono hB1.size)
  clear hb2 hB1 hX hY x0 x1
  go_wp2_with fail
  refine (body_any ⟨#[48]⟩ _ (by decide)).mono ?_
  rintro e w3 ⟨rfl, hb3⟩
  rw [show bodyF ⟨#[48]⟩ = (1, true) from by decide]
  have hX3 := hX2.below hb3 hX2.lt
  have hY3 := hY2.below hb3 hY2.lt
  have hB3 := hB2.trans (hb3.mono hB2.size)
  clear hb3 hB2 hX2 hY2
  have x0 := hX3.cells 0 _ rfl
  have x1 := hX3.cells 1 _ rfl
  simp only [List.getElem_toArray, List.getElem_cons_zero, List.getElem_cons_succ] at x0 x1
  go_wp2_with fail
  refine (tcopied_any p A A' n m c d _ (HP.step hB3) (by omega) (by omega)).mono ?_
  rintro e w4 ⟨v, rfl, hO, hb4⟩
  have hY4 := hY3.below hb4 hY3.lt
  have hB4 := hB3.trans (hb4.mono hB3.size)
  have HO := Lib.hid (hO.base hB3.size)
  clear hb4 hB3 hX3 hY3 x0 x1 hO
  go_wp2_with fail
  refine (put1_any (i + 1) s w4).mono ?_
  rintro e w5 ⟨rfl, rfl⟩
  go_wp2_with fail
  refine (put1_any i ⟨#[48]⟩ _).mono ?_
  rintro e w6 ⟨rfl, rfl⟩
  go_wp2_with fail
  refine (do_any p (i + 1) s i ⟨#[48]⟩ _ _ _ _ _ w.heap.size v most _ (by have := hB4.size; simp; omega) (HO.out.on (by go_grown))
    (WrOk.mk_ (((((Blk.new w4 _ _).alloc _).alloc _).alloc _).alloc _) ((((Blk.new_at (g := w4.heap.size + 1) (by simp) _ _).alloc _).alloc _).alloc _))
    (WrOk.mk_ (((Blk.new_at (g := w4.heap.size + 1 + 1) (by simp) _ _).alloc _).alloc _) ((Blk.new_at (g := w4.heap.size + 1 + 1 + 1) (by simp) _ _).alloc _))
    (Blk.new_at (g := w4.heap.size + 1 + 1 + 1 + 1) (by simp) _ _)).mono ?_
  rintro e w7 ⟨v7, rfl, hO7, hb7⟩
  rw [← HF.out] at hO7 ⊢
  obtain ⟨A7, c7, A7', c7', rfl, h1, h2⟩ := hO7
  have hb7' : Below w4.heap.size w4 w7 := Below.trans (by go_grown) (hb7.mono (by simp; omega))
  have hY7 := hY4.below hb7' hY4.lt
  have hB7 := hB4.trans (hb7'.mono hB4.size)
  have n1 := own_blk_ne h1 hY7 (by decide)
  have n2 := own_blk_ne h2 hY7 (by decide)
  have y0 := hY7.cells 0 _ rfl
  have y1 := hY7.cells 1 _ rfl
  have yf := hY7.frozen
  have hyl := hY7.lt
  simp only [List.getElem_toArray, List.getElem_cons_zero, List.getElem_cons_succ] at y0 y1
  have HO7 := Lib.hid (And.intro (And.intro h1 h2) (And.intro n1 n2))
  clear hb7 hb7' hY4 hB4 hY7 n1 n2 h1 h2 HO HF
  obtain ⟨q, done, eq⟩ := rf
  dsimp only at HO7 ⊢
  go_wp2_with (with_reducible refine end_at ?_)
  refine end_ret (v := .tuple #[.agg #[.slice A7 q.sectors.length c7, .slice A7' q.cache.length c7'], .bool done, .int .i64 eq]) (by simp [results, Tryz.results41, go_sem, y0, y1]; try rfl) rfl ?_
  obtain ⟨⟨h1, h2⟩, n1, n2⟩ := HO7.out
  exact ⟨_, rfl, ⟨A7, c7, A7', c7', rfl, own_far (own_far h1 n1 _ _) n1 _ _, own_far (own_far h2 n2 _ _) n2 _ _⟩, by go_grown⟩
theorem put_any (p : Plat) (i : Int) (s : ByteArray) (most : Int) (A A' : Option Addr) (n m c d : Nat) (w : World) (hP : PlatAt w w.heap.size A n A' m p) :
    Calls Tryz.prog 41 #[.agg #[.slice A n c, .slice A' m d], .int .i64 i, .string s, .int .i64 most] w (OutDo w.heap.size w (putF p i s most)) := by
  by_cases hg : (getF p i).2.2 = 0
  · by_cases hm : (readF p i).1.toList = [48]
    · exact put_ok0 p i s most A A' n m c d w hP.pre hg hm
    · exact put_ok1 p i s most A A' n m c d w hP.pre hg hm
  · exact put_bad p i s most A A' n m c d w hP.pre hg
end Go.Proofs.YtpkomloblhbkiaaGreatDoor
/- chapter 14's laws' helper twins. -/
namespace Go.Proofs.YtpkomloblhbkiaaGreatDoor
open Go.RowKit
end Go.Proofs.YtpkomloblhbkiaaGreatDoor
/- chapter 14, plain: what a Put does, and a crash behind it. -/
namespace Go.Proofs.YtpkomloblhbkiaaGreatDoor
open Go.RowKit
theorem write_check {p : Plat} {i : Int} {s : ByteArray} (h : (writeF p i s).2 = 0) : checkP (writeF p i s).1 = true := by
  obtain ⟨hc, hi, hs, hl, e⟩ := write_ok h
  rw [e]; exact put_ok hc hi hs hl
theorem read_write {p : Plat} {i : Int} {s : ByteArray} (h : (writeF p i s).2 = 0) (o : Int) : readF (writeF p i s).1 o = if o = i then (s, 0) else readF p o := by
  have hc' := write_check h
  obtain ⟨hc, hi, hs, hl, e⟩ := write_ok h
  rw [e] at hc' ⊢
  have hn := (hasB_iff _ _).1 hi
  by_cases ho : o = i
  · subst ho
    rw [if_pos rfl, readF_ok hc', if_pos hi]
    simp only [readOf, lastP_snoc]
    rw [if_pos (by omega)]
  · rw [if_neg ho, readF_ok hc, readF_ok hc']
    by_cases hb : hasB p.sectors.length o = true
    · rw [if_pos hb, if_pos hb]
      have := (hasB_iff _ _).1 hb
      simp only [readOf, lastP_snoc]
      rw [if_neg (by omega)]
    · rw [if_neg hb, if_neg hb]
theorem write_len {p : Plat} {i : Int} {s : ByteArray} (h : (writeF p i s).2 = 0) : (writeF p i s).1.sectors.length = p.sectors.length := by
  obtain ⟨_, _, _, _, e⟩ := write_ok h
  rw [e]
section
variable {p q : Plat} {i1 : Int} {s1 : ByteArray} {i2 : Int} {s2 : ByteArray}
theorem doTo1 : doTo p i1 s1 i2 s2 1 = writeF p i1 s1 := rfl
theorem doTo_ok1 (h : (writeF p i1 s1).2 = 0) : doTo p i1 s1 i2 s2 1 = ((writeF p i1 s1).1, 0) := by rw [doTo1, ← h]
theorem doTo_ok2 (h : (writeF p i1 s1).2 = 0) : doTo p i1 s1 i2 s2 2 = ((syncF (writeF p i1 s1).1).1, 0) := by
  rw [doTo_next (doTo_ok1 h)]
  show syncF _ = _
  rw [← (sync_ok (write_check h)).1]
theorem doTo_ok3 (h : (writeF p i1 s1).2 = 0) (h2 : (writeF (syncF (writeF p i1 s1).1).1 i2 s2).2 = 0) : doTo p i1 s1 i2 s2 3 = ((writeF (syncF (writeF p i1 s1).1).1 i2 s2).1, 0) := by
  rw [doTo_next (doTo_ok2 h)]
  show writeF _ _ _ = _
  rw [← h2]
theorem doTo_ok4 (h : (writeF p i1 s1).2 = 0) (h2 : (writeF (syncF (writeF p i1 s1).1).1 i2 s2).2 = 0) : doTo p i1 s1 i2 s2 4 = ((syncF (writeF (syncF (writeF p i1 s1).1).1 i2 s2).1).1, 0) := by
  rw [doTo_next (doTo_ok3 h h2)]
  show syncF _ = _
  rw [← (sync_ok (write_check h2)).1]
theorem doTo_w1 {N : Nat} (hN : 1 ≤ N) (h : (doTo p i1 s1 i2 s2 N).2 = 0) : (writeF p i1 s1).2 = 0 := by
  by_cases h1 : (writeF p i1 s1).2 = 0
  · exact h1
  · have := doTo_stays (q := (writeF p i1 s1).1) (er := (writeF p i1 s1).2) (k := 1) (i2 := i2) (s2 := s2) (by rw [doTo1]) h1 N hN
    rw [this] at h; exact absurd h h1
theorem doTo_w2 {N : Nat} (hN : 3 ≤ N) (h : (doTo p i1 s1 i2 s2 N).2 = 0) : (writeF (syncF (writeF p i1 s1).1).1 i2 s2).2 = 0 := by
  have h1 := doTo_w1 (by omega) h
  by_cases h2 : (writeF (syncF (writeF p i1 s1).1).1 i2 s2).2 = 0
  · exact h2
  · have h3 : doTo p i1 s1 i2 s2 3 = ((writeF (syncF (writeF p i1 s1).1).1 i2 s2).1, (writeF (syncF (writeF p i1 s1).1).1 i2 s2).2) := by
      rw [doTo_next (doTo_ok2 h1)]; rfl
    have := doTo_stays h3 h2 N hN
    rw [this] at h; exact absurd h h2
/-- what is read behind so many deeds -/
theorem read2 (h : (writeF p i1 s1).2 = 0) (o : Int) : readF (syncF (writeF p i1 s1).1).1 o = if o = i1 then (s1, 0) else readF p o := by
  rw [read_sync (write_check h), read_write h]
theorem read3 (h : (writeF p i1 s1).2 = 0) (h2 : (writeF (syncF (writeF p i1 s1).1).1 i2 s2).2 = 0) (o : Int) : readF (writeF (syncF (writeF p i1 s1).1).1 i2 s2).1 o = if o = i2 then (s2, 0) else if o = i1 then (s1, 0) else readF p o := by
  rw [read_write h2, read2 h]
theorem read4 (h : (writeF p i1 s1).2 = 0) (h2 : (writeF (syncF (writeF p i1 s1).1).1 i2 s2).2 = 0) (o : Int) : readF (syncF (writeF (syncF (writeF p i1 s1).1).1 i2 s2).1).1 o = if o = i2 then (s2, 0) else if o = i1 then (s1, 0) else readF p o := by
  rw [read_sync (write_check h2), read3 h h2]
end
theorem mark_cases (old : ByteArray) : (old.toList = [48] ∧ markF old = ⟨#[49]⟩) ∨ (old.toList ≠ [48] ∧ markF old = ⟨#[48]⟩) := by
  unfold markF
  by_cases h : old.toList = [48]
  · exact .inl ⟨h, by rw [if_pos h]⟩
  · exact .inr ⟨h, by rw [if_neg h]⟩
theorem list0 : (⟨#[48]⟩ : ByteArray).toList = [48] := by kernel_rfl
theorem list1 : (⟨#[49]⟩ : ByteArray).toList = [49] := by kernel_rfl
theorem body0 : bodyF ⟨#[48]⟩ = (1, true) := by kernel_rfl
theorem body1 : bodyF ⟨#[49]⟩ = (2, true) := by kernel_rfl
/-- what Get tells, by what is read -/
theorem getF_mark {p : Plat} {i : Int} {m s : ByteArray} {far : Int} {e : Int} (h : readF p i = (m, 0)) (hm : m.toList ≠ []) (hb : bodyF m = (far, true)) (hs : readF p (i + far) = (s, e)) : getF p i = (s, decide (e = 0), e) := by
  unfold getF
  rw [h]
  simp only [if_true, hm, if_false, hb, hs]
theorem getF_empty {p : Plat} {i : Int} {m : ByteArray} (h : readF p i = (m, 0)) (hm : m.toList = []) : getF p i = (⟨#[]⟩, false, 0) := by
  unfold getF
  rw [h]
  simp only [if_true, hm]
/-- the three cases of a twin that Get takes -/
theorem get_ok {p : Plat} {i : Int} (h : (getF p i).2.2 = 0) : (∃ m, readF p i = (m, 0)) ∧
    (((readF p i).1.toList = [] ∧ getF p i = (⟨#[]⟩, false, 0)) ∨ ∃ far, (((readF p i).1 = ⟨#[48]⟩ ∧ far = 1) ∨ ((readF p i).1 = ⟨#[49]⟩ ∧ far = 2)) ∧ (readF p (i + far)).2 = 0 ∧ getF p i = ((readF p (i + far)).1, true, 0)) := by
  have h0 := get_read h
  refine ⟨⟨(readF p i).1, by rw [← h0]⟩, ?_⟩
  have hR : readF p i = ((readF p i).1, 0) := by rw [← h0]
  generalize (readF p i).1 = m at hR ⊢
  by_cases hm : m.toList = []
  · exact .inl ⟨hm, getF_empty hR hm⟩
  · refine .inr ?_
    rcases bodyF_cases m with ⟨rfl, hb⟩ | ⟨rfl, hb⟩ | ⟨h1, h2, hb⟩
    · have := getF_mark hR hm hb rfl
      rw [this] at h ⊢
      dsimp only at h ⊢
      exact ⟨1, .inl ⟨rfl, rfl⟩, h, by rw [h]; rfl⟩
    · have := getF_mark hR hm hb rfl
      rw [this] at h ⊢
      dsimp only at h ⊢
      exact ⟨2, .inr ⟨rfl, rfl⟩, h, by rw [h]; rfl⟩
    · exfalso
      unfold getF at h
      rw [hR] at h
      simp only [if_true, hm, if_false, hb] at h
      simp at h
section
variable {p : Plat} {i : Int} {s : ByteArray}
/-- a Put that is right is so many deeds -/
theorem putF_do (hg : (getF p i).2.2 = 0) (most : Int) : putF p i s most = doN p (i + (bodyF (markF (readF p i).1)).1) s i (markF (readF p i).1) (mostN most) := by unfold putF; rw [if_pos hg]
theorem put_get {most : Int} (h : (putF p i s most).2.2 = 0) : (getF p i).2.2 = 0 := by
  by_cases hg : (getF p i).2.2 = 0
  · exact hg
  · unfold putF at h; rw [if_neg hg] at h; exact h
/-- TwinBack's plain law -/
theorem put_back (h : (putF p i s 4).2.2 = 0) : (putF p i s 4).2.1 = true ∧ getF (putF p i s 4).1 i = (s, true, 0) ∧ (∀ o, o ≠ i → o ≠ i + 1 → o ≠ i + 2 → readF (putF p i s 4).1 o = readF p o) := by
  have hg := put_get h
  rw [putF_do hg] at h ⊢
  obtain ⟨⟨m, hm⟩, _⟩ := get_ok hg
  rw [hm] at h ⊢
  have e4 : mostN 4 = 4 := rfl
  rw [e4] at h ⊢
  have hd : (doTo p (i + (bodyF (markF m)).1) s i (markF m) 4).2 = 0 := by
    unfold doN at h
    split at h
    · assumption
    · exact h
  have h1 := doTo_w1 (by omega) hd
  have h2 := doTo_w2 (by omega) hd
  have hok := doN_ok (doTo_ok4 h1 h2)
  dsimp only at hd h1 h2 hok ⊢
  rw [hok]
  refine ⟨rfl, ?_, fun o a b c => ?_⟩
  · rcases mark_cases m with ⟨_, e⟩ | ⟨_, e⟩
    · rw [e] at h1 h2 ⊢
      rw [body1] at h1 h2 ⊢
      have := getF_mark (p := (syncF (writeF (syncF (writeF p (i + 2) s).1).1 i ⟨#[49]⟩).1).1) (i := i) (m := ⟨#[49]⟩) (far := 2) (s := s) (e := 0) (by rw [read4 h1 h2, if_pos rfl]) (by rw [list1]; simp) body1 (by rw [read4 h1 h2, if_neg (by omega), if_pos rfl])
      simpa using this
    · rw [e] at h1 h2 ⊢
      rw [body0] at h1 h2 ⊢
      have := getF_mark (p := (syncF (writeF (syncF (writeF p (i + 1) s).1).1 i ⟨#[48]⟩).1).1) (i := i) (m := ⟨#[48]⟩) (far := 1) (s := s) (e := 0) (by rw [read4 h1 h2, if_pos rfl]) (by rw [list0]; simp) body0 (by rw [read4 h1 h2, if_neg (by omega), if_pos rfl])
      simpa using this
  · dsimp only
    rw [read4 h1 h2, if_neg a, if_neg]
    rcases mark_cases m with ⟨_, e⟩ | ⟨_, e⟩
    · rw [e, body1]; exact c
    · rw [e, body0]; exact b
end
end Go.Proofs.YtpkomloblhbkiaaGreatDoor
/- chapter 14, far: the walk. -/
namespace Go.Proofs.YtpkomloblhbkiaaGreatDoor
open Go.RowKit
end Go.Proofs.YtpkomloblhbkiaaGreatDoor
