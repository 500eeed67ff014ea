/- twin.do, at the deeds of a Put: fewer than none. -/
import Derived.Test.YtpkomloblhbkiaaGreatDoorTwinA
set_option linter.unusedVariables false
/- twin.do, at the deeds of a Put. -/
namespace Go.Proofs.YtpkomloblhbkiaaGreatDoor
open Go.RowKit
def deedF (i1 : Int) (s1 : ByteArray) (i2 : Int) (s2 : ByteArray) (j : Nat) (p : Plat) : Plat × Int := if j = 0 then writeF p i1 s1 else if j = 2 then writeF p i2 s2 else syncF p
def doTo (p : Plat) (i1 : Int) (s1 : ByteArray) (i2 : Int) (s2 : ByteArray) : Nat → Plat × Int
  | 0 => (p, 0)
  | k + 1 => if (doTo p i1 s1 i2 s2 k).2 = 0 then deedF i1 s1 i2 s2 k (doTo p i1 s1 i2 s2 k).1 else doTo p i1 s1 i2 s2 k
def doN (p : Plat) (i1 : Int) (s1 : ByteArray) (i2 : Int) (s2 : ByteArray) (N : Nat) : Plat × Bool × Int :=
  if (doTo p i1 s1 i2 s2 N).2 = 0 then ((doTo p i1 s1 i2 s2 N).1, decide (N = 4), 0) else (noPlat, false, (doTo p i1 s1 i2 s2 N).2)
def mostN (most : Int) : Nat := if 0 ≤ most ∧ most ≤ 4 then most.toNat else 4
section
variable {p q : Plat} {i1 : Int} {s1 : ByteArray} {i2 : Int} {s2 : ByteArray} {k N : Nat} {er : Int}
theorem doTo_next (h : doTo p i1 s1 i2 s2 k = (q, 0)) : doTo p i1 s1 i2 s2 (k + 1) = deedF i1 s1 i2 s2 k q := by rw [doTo, h]; rfl
theorem doTo_stays (h : doTo p i1 s1 i2 s2 k = (q, er)) (he : er ≠ 0) : ∀ N, k ≤ N → doTo p i1 s1 i2 s2 N = (q, er) := by
  intro N
  induction N with
  | zero => intro hN; obtain rfl : k = 0 := by omega
            exact h
  | succ N ih =>
    intro hN
    by_cases e : k = N + 1
    · subst e; exact h
    · rw [doTo, ih (by omega)]
      simp [he]
theorem doN_bad (hk : k < N) (h : doTo p i1 s1 i2 s2 (k + 1) = (q, er)) (he : er ≠ 0) : doN p i1 s1 i2 s2 N = (noPlat, false, er) := by
  unfold doN
  rw [doTo_stays h he N (by omega)]
  simp [he]
theorem doN_ok (h : doTo p i1 s1 i2 s2 N = (q, 0)) : doN p i1 s1 i2 s2 N = (q, decide (N = 4), 0) := by
  unfold doN
  rw [h]; rfl
end
/-- a platter, whether all was done, and an error; its rows from B on -/
def OutDo (B : Nat) (w : World) (r : Plat × Bool × Int) (e : Ending) (w' : World) : Prop := ∃ v, e = .returned (.tuple #[v, .bool r.2.1, .int .i64 r.2.2]) ∧ PlatOut w' B v r.1 ∧ Below w.heap.size w w'
set_option maxHeartbeats 4000000 in
set_option maxRecDepth 100000 in
theorem do_in (p : Plat) (i1 : Int) (s1 : ByteArray) (i2 : Int) (s2 : ByteArray) (a1 b1 a2 b2 g B : Nat) (A A' : Option Addr) (n m c d : Nat) (N : Nat) (hN : N ≤ 4) (w : World) (hB : B ≤ w.heap.size)
    (HR : Hid (w.ownsRow B 9 1 (.slice A p.sectors.length c) p.sectors.length (flat encS p.sectors) ∧ w.ownsRow B 159 2 (.slice A' p.cache.length d) p.cache.length (flat encP p.cache)))
    (HW1 : WrOk w a1 b1 i1 s1) (HW2 : WrOk w a2 b2 i2 s2) (HD : Hid (Blk w g 147 #[.func (.func 82) #[] #[.pointer (some ⟨a1, 0, none⟩), .pointer (some ⟨b1, 0, none⟩)], .func (.func 86) #[] #[], .func (.func 82) #[] #[.pointer (some ⟨a2, 0, none⟩), .pointer (some ⟨b2, 0, none⟩)], .func (.func 86) #[] #[]])) :
    Calls Tryz.prog 84 #[.agg #[.slice A p.sectors.length c, .slice A' p.cache.length d], .int .i64 (N : Int), .slice (some ⟨g, 0, none⟩) 4 4] w (OutDo B w (doN p i1 s1 i2 s2 N)) := by
  skip
  have HER : Hid (∀ (k : Nat) (q1 : Plat) (er : Int), k < N → doTo p i1 s1 i2 s2 (k + 1) = (q1, er) → er ≠ 0 → doN p i1 s1 i2 s2 N = (noPlat, false, er)) := fun k q1 er hk h1 h2 => doN_bad hk h1 h2
  have HOK : Hid (∀ q : Plat, doTo p i1 s1 i2 s2 N = (q, 0) → doN p i1 s1 i2 s2 N = (q, decide (N = 4), 0)) := fun q h => doN_ok h
  go_enter Tryz.func84, Tryz.ntmps84
  go_wp2_with fail
  have hX0 : Blk ((w.alloc (.cells #[.slice A p.sectors.length c, .slice A' p.cache.length d] 42)).alloc (.cells #[.slice none 0 0, .slice none 0 0] 42)) w.heap.size 42 #[.slice A p.sectors.length c, .slice A' p.cache.length d] := (Blk.new w _ _).alloc _
  have hY0 : Blk ((w.alloc (.cells #[.slice A p.sectors.length c, .slice A' p.cache.length d] 42)).alloc (.cells #[.slice none 0 0, .slice none 0 0] 42)) (w.heap.size + 1) 42 #[.slice none 0 0, .slice none 0 0] := Blk.new_at (by simp) _ _
  go_loopw [27] (fun i wr => ∃ (k : Nat) (q : Plat) (A : Option Addr) (c : Nat) (A' : Option Addr) (c' : Nat), k ≤ N ∧ i = .int .i64 k ∧ Hid (doTo p i1 s1 i2 s2 k = (q, 0)) ∧ Below w.heap.size w wr ∧ Blk wr w.heap.size 42 #[.slice A q.sectors.length c, .slice A' q.cache.length c'] ∧ Blk wr (w.heap.size + 1) 42 #[.slice none 0 0, .slice none 0 0] ∧ Hid (wr.ownsRow B 9 1 (.slice A q.sectors.length c) q.sectors.length (flat encS q.sectors) ∧ wr.ownsRow B 159 2 (.slice A' q.cache.length c') q.cache.length (flat encP q.cache))) (fun i _ => N - (intOf i).toNat)
  case atStart => exact ⟨0, p, A, c, A', d, Nat.zero_le _, rfl, rfl, by go_grown, hX0, hY0, ⟨(HR.out.1.alloc _).alloc _, (HR.out.2.alloc _).alloc _⟩⟩
  case round =>
    obtain ⟨k, q, A, c, A', c', hk, rfl, HQ, hBr, hX, hY, HO⟩ := hrel
    rename_i wr _ _
    clear hX0 hY0
    by_cases hlt : k < N
    · have HST := Lib.hid (doTo_next HQ.out)
      have hd := HD.out.below hBr HD.out.lt
      have HW1 := HW1.on hBr
      have HW2 := HW2.on hBr
      have HPq : PlatPre wr A q.sectors.length A' q.cache.length q := by
        obtain ⟨A6, c6, A6', c6', hv, h⟩ := PlatOut.at_ (B := B) (v := .agg #[.slice A q.sectors.length c, .slice A' q.cache.length c']) ⟨A, c, A', c', rfl, HO.out.1, HO.out.2⟩
        injection hv with hv
        injection hv with hv
        injection hv with hv1 hv2
        injection hv2 with hv2 _
        injection hv1 with hv1
        injection hv2 with hv2
        subst hv1; subst hv2
        exact h
      have x0 := hX.cells 0 _ rfl
      have x1 := hX.cells 1 _ rfl
      simp only [List.getElem_toArray, List.getElem_cons_zero, List.getElem_cons_succ] at x0 x1
      have hzr := hBr.size
      clear HO
      have hk4 : k < 4 := by omega
      have hkc : k = 0 ∨ k = 1 ∨ k = 2 ∨ k = 3 := by omega
      rcases hkc with rfl | rfl | rfl | rfl

      · have dk := hd.cells 0 _ rfl
        simp only [List.getElem_toArray, List.getElem_cons_zero] at dk
        rw [show deedF i1 s1 i2 s2 0 q = writeF q i1 s1 from rfl] at HST
        generalize hcl : writeF q i1 s1 = R at HST
        have HCL := Lib.hid hcl
        clear hcl hd
        obtain ⟨q1, er⟩ := R
        go_wp2_with fail
        refine (put11_any q i1 s1 a1 b1 A A' _ _ c c' _ (HPq.step (by go_grown)) (HW1.on (by go_grown))).mono ?_
        rintro e w5 ⟨v, rfl, ⟨A5, c5, A5', c5', rfl, ho1, ho2⟩, hb5⟩
        rw [HCL.out] at ho1 ho2 ⊢
        have hX5 := hX.below hb5 hX.lt
        have hY5 := hY.below hb5 hY.lt
        have hB5 := hBr.trans (hb5.mono hBr.size)
        have ho1 := own_base (base' := B) ho1 (by have := hBr.size; omega)
        have ho2 := own_base (base' := B) ho2 (by have := hBr.size; omega)
        have HO5 := Lib.hid (And.intro ho1 ho2)
        have x0 := hX5.cells 0 _ rfl
        have x1 := hX5.cells 1 _ rfl
        have xf := hX5.frozen
        have hxl := hX5.lt
        have y0 := hY5.cells 0 _ rfl
        have y1 := hY5.cells 1 _ rfl
        have yf := hY5.frozen
        have hyl := hY5.lt
        simp only [List.getElem_toArray, List.getElem_cons_zero, List.getElem_cons_succ] at x0 x1 y0 y1
        have HX5 := Lib.hid (And.intro hX5 hY5)
        clear ho1 ho2 hb5 hX hY hBr HPq hX5 hY5 dk
        by_cases her : er = 0
        · subst her
          go_wp2_with fail
          go_roundw
          case rel =>
            refine ⟨0 + 1, q1, A5, c5, A5', c5', by omega, by go_num, HST, ?_, ?_, ?_, ?_⟩
            · have := hB5
              go_grown
            · have := (((HX5.out.1.set_ 0 (.slice A5 q1.sectors.length c5)).set_ 1 (.slice A5' q1.cache.length c5'))).alloc (.cells #[.slice A5 q1.sectors.length c5, .slice A5' q1.cache.length c5'] 42)
              simpa using this
            · exact ((HX5.out.2.far (p := ⟨w.heap.size, 0, none⟩) (by simp) _).far (p := ⟨w.heap.size, 1, none⟩) (by simp) _).alloc _
            · have h1 := HO5.out.1
              have h2 := HO5.out.2
              have n1 := own_blk_ne h1 HX5.out.1 (by decide)
              have n2 := own_blk_ne h2 HX5.out.1 (by decide)
              exact ⟨(own_far (own_far h1 n1 _ _) n1 _ _).alloc _, (own_far (own_far h2 n2 _ _) n2 _ _).alloc _⟩
          case measure => simp [intOf] <;> omega
        · have t1 : (er != 0) = true := by simpa using her
          have HE := Lib.hid (HER.out 0 q1 er (by omega) HST her)
          clear her
          go_wp2_with (with_reducible refine end_at ?_)
          refine end_ret (v := .tuple #[.agg #[.slice none 0 0, .slice none 0 0], .bool false, .int .i64 er]) (by simp [results, Tryz.results84, go_sem, y0, y1, hyl]; try rfl) rfl ?_
          refine ⟨_, by rw [HE.out], ?_, ?_⟩
          · rw [HE.out]; exact ⟨none, 0, none, 0, rfl, World.ownsRow_nil _ _ _ _, World.ownsRow_nil _ _ _ _⟩
          · have := hB5
            go_grown
      · have dk := hd.cells 1 _ rfl
        simp only [List.getElem_toArray, List.getElem_cons_zero, List.getElem_cons_succ] at dk
        rw [show deedF i1 s1 i2 s2 1 q = syncF q from rfl] at HST
        generalize hcl : syncF q = R at HST
        have HCL := Lib.hid hcl
        clear hcl hd
        obtain ⟨q1, er⟩ := R
        go_wp2_with fail
        refine (sync_any q A A' _ _ c c' _ (HPq.step (by go_grown))).mono ?_
        rintro e w5 ⟨v, rfl, ⟨A5, c5, A5', c5', rfl, ho1, ho2⟩, hb5⟩
        rw [HCL.out] at ho1 ho2 ⊢
        have hX5 := hX.below hb5 hX.lt
        have hY5 := hY.below hb5 hY.lt
        have hB5 := hBr.trans (hb5.mono hBr.size)
        have ho1 := own_base (base' := B) ho1 (by have := hBr.size; omega)
        have ho2 := own_base (base' := B) ho2 (by have := hBr.size; omega)
        have HO5 := Lib.hid (And.intro ho1 ho2)
        have x0 := hX5.cells 0 _ rfl
        have x1 := hX5.cells 1 _ rfl
        have xf := hX5.frozen
        have hxl := hX5.lt
        have y0 := hY5.cells 0 _ rfl
        have y1 := hY5.cells 1 _ rfl
        have yf := hY5.frozen
        have hyl := hY5.lt
        simp only [List.getElem_toArray, List.getElem_cons_zero, List.getElem_cons_succ] at x0 x1 y0 y1
        have HX5 := Lib.hid (And.intro hX5 hY5)
        clear ho1 ho2 hb5 hX hY hBr HPq hX5 hY5 dk
        by_cases her : er = 0
        · subst her
          go_wp2_with fail
          go_roundw
          case rel =>
            refine ⟨1 + 1, q1, A5, c5, A5', c5', by omega, by go_num, HST, ?_, ?_, ?_, ?_⟩
            · have := hB5
              go_grown
            · have := (((HX5.out.1.set_ 0 (.slice A5 q1.sectors.length c5)).set_ 1 (.slice A5' q1.cache.length c5'))).alloc (.cells #[.slice A5 q1.sectors.length c5, .slice A5' q1.cache.length c5'] 42)
              simpa using this
            · exact ((HX5.out.2.far (p := ⟨w.heap.size, 0, none⟩) (by simp) _).far (p := ⟨w.heap.size, 1, none⟩) (by simp) _).alloc _
            · have h1 := HO5.out.1
              have h2 := HO5.out.2
              have n1 := own_blk_ne h1 HX5.out.1 (by decide)
              have n2 := own_blk_ne h2 HX5.out.1 (by decide)
              exact ⟨(own_far (own_far h1 n1 _ _) n1 _ _).alloc _, (own_far (own_far h2 n2 _ _) n2 _ _).alloc _⟩
          case measure => simp [intOf] <;> omega
        · have t1 : (er != 0) = true := by simpa using her
          have HE := Lib.hid (HER.out 1 q1 er (by omega) HST her)
          clear her
          go_wp2_with (with_reducible refine end_at ?_)
          refine end_ret (v := .tuple #[.agg #[.slice none 0 0, .slice none 0 0], .bool false, .int .i64 er]) (by simp [results, Tryz.results84, go_sem, y0, y1, hyl]; try rfl) rfl ?_
          refine ⟨_, by rw [HE.out], ?_, ?_⟩
          · rw [HE.out]; exact ⟨none, 0, none, 0, rfl, World.ownsRow_nil _ _ _ _, World.ownsRow_nil _ _ _ _⟩
          · have := hB5
            go_grown
      · have dk := hd.cells 2 _ rfl
        simp only [List.getElem_toArray, List.getElem_cons_zero, List.getElem_cons_succ] at dk
        rw [show deedF i1 s1 i2 s2 2 q = writeF q i2 s2 from rfl] at HST
        generalize hcl : writeF q i2 s2 = R at HST
        have HCL := Lib.hid hcl
        clear hcl hd
        obtain ⟨q1, er⟩ := R
        go_wp2_with fail
        refine (put11_any q i2 s2 a2 b2 A A' _ _ c c' _ (HPq.step (by go_grown)) (HW2.on (by go_grown))).mono ?_
        rintro e w5 ⟨v, rfl, ⟨A5, c5, A5', c5', rfl, ho1, ho2⟩, hb5⟩
        rw [HCL.out] at ho1 ho2 ⊢
        have hX5 := hX.below hb5 hX.lt
        have hY5 := hY.below hb5 hY.lt
        have hB5 := hBr.trans (hb5.mono hBr.size)
        have ho1 := own_base (base' := B) ho1 (by have := hBr.size; omega)
        have ho2 := own_base (base' := B) ho2 (by have := hBr.size; omega)
        have HO5 := Lib.hid (And.intro ho1 ho2)
        have x0 := hX5.cells 0 _ rfl
        have x1 := hX5.cells 1 _ rfl
        have xf := hX5.frozen
        have hxl := hX5.lt
        have y0 := hY5.cells 0 _ rfl
        have y1 := hY5.cells 1 _ rfl
        have yf := hY5.frozen
        have hyl := hY5.lt
        simp only [List.getElem_toArray, List.getElem_cons_zero, List.getElem_cons_succ] at x0 x1 y0 y1
        have HX5 := Lib.hid (And.intro hX5 hY5)
        clear ho1 ho2 hb5 hX hY hBr HPq hX5 hY5 dk
        by_cases her : er = 0
        · subst her
          go_wp2_with fail
          go_roundw
          case rel =>
            refine ⟨2 + 1, q1, A5, c5, A5', c5', by omega, by go_num, HST, ?_, ?_, ?_, ?_⟩
            · have := hB5
              go_grown
            · have := (((HX5.out.1.set_ 0 (.slice A5 q1.sectors.length c5)).set_ 1 (.slice A5' q1.cache.length c5'))).alloc (.cells #[.slice A5 q1.sectors.length c5, .slice A5' q1.cache.length c5'] 42)
              simpa using this
            · exact ((HX5.out.2.far (p := ⟨w.heap.size, 0, none⟩) (by simp) _).far (p := ⟨w.heap.size, 1, none⟩) (by simp) _).alloc _
            · have h1 := HO5.out.1
              have h2 := HO5.out.2
              have n1 := own_blk_ne h1 HX5.out.1 (by decide)
              have n2 := own_blk_ne h2 HX5.out.1 (by decide)
              exact ⟨(own_far (own_far h1 n1 _ _) n1 _ _).alloc _, (own_far (own_far h2 n2 _ _) n2 _ _).alloc _⟩
          case measure => simp [intOf] <;> omega
        · have t1 : (er != 0) = true := by simpa using her
          have HE := Lib.hid (HER.out 2 q1 er (by omega) HST her)
          clear her
          go_wp2_with (with_reducible refine end_at ?_)
          refine end_ret (v := .tuple #[.agg #[.slice none 0 0, .slice none 0 0], .bool false, .int .i64 er]) (by simp [results, Tryz.results84, go_sem, y0, y1, hyl]; try rfl) rfl ?_
          refine ⟨_, by rw [HE.out], ?_, ?_⟩
          · rw [HE.out]; exact ⟨none, 0, none, 0, rfl, World.ownsRow_nil _ _ _ _, World.ownsRow_nil _ _ _ _⟩
          · have := hB5
            go_grown
      · have dk := hd.cells 3 _ rfl
        simp only [List.getElem_toArray, List.getElem_cons_zero, List.getElem_cons_succ] at dk
        rw [show deedF i1 s1 i2 s2 3 q = syncF q from rfl] at HST
        generalize hcl : syncF q = R at HST
        have HCL := Lib.hid hcl
        clear hcl hd
        obtain ⟨q1, er⟩ := R
        go_wp2_with fail
        refine (sync_any q A A' _ _ c c' _ (HPq.step (by go_grown))).mono ?_
        rintro e w5 ⟨v, rfl, ⟨A5, c5, A5', c5', rfl, ho1, ho2⟩, hb5⟩
        rw [HCL.out] at ho1 ho2 ⊢
        have hX5 := hX.below hb5 hX.lt
        have hY5 := hY.below hb5 hY.lt
        have hB5 := hBr.trans (hb5.mono hBr.size)
        have ho1 := own_base (base' := B) ho1 (by have := hBr.size; omega)
        have ho2 := own_base (base' := B) ho2 (by have := hBr.size; omega)
        have HO5 := Lib.hid (And.intro ho1 ho2)
        have x0 := hX5.cells 0 _ rfl
        have x1 := hX5.cells 1 _ rfl
        have xf := hX5.frozen
        have hxl := hX5.lt
        have y0 := hY5.cells 0 _ rfl
        have y1 := hY5.cells 1 _ rfl
        have yf := hY5.frozen
        have hyl := hY5.lt
        simp only [List.getElem_toArray, List.getElem_cons_zero, List.getElem_cons_succ] at x0 x1 y0 y1
        have HX5 := Lib.hid (And.intro hX5 hY5)
        clear ho1 ho2 hb5 hX hY hBr HPq hX5 hY5 dk
        by_cases her : er = 0
        · subst her
          go_wp2_with fail
          go_roundw
          case rel =>
            refine ⟨3 + 1, q1, A5, c5, A5', c5', by omega, by go_num, HST, ?_, ?_, ?_, ?_⟩
            · have := hB5
              go_grown
            · have := (((HX5.out.1.set_ 0 (.slice A5 q1.sectors.length c5)).set_ 1 (.slice A5' q1.cache.length c5'))).alloc (.cells #[.slice A5 q1.sectors.length c5, .slice A5' q1.cache.length c5'] 42)
              simpa using this
            · exact ((HX5.out.2.far (p := ⟨w.heap.size, 0, none⟩) (by simp) _).far (p := ⟨w.heap.size, 1, none⟩) (by simp) _).alloc _
            · have h1 := HO5.out.1
              have h2 := HO5.out.2
              have n1 := own_blk_ne h1 HX5.out.1 (by decide)
              have n2 := own_blk_ne h2 HX5.out.1 (by decide)
              exact ⟨(own_far (own_far h1 n1 _ _) n1 _ _).alloc _, (own_far (own_far h2 n2 _ _) n2 _ _).alloc _⟩
          case measure => simp [intOf] <;> omega
        · have t1 : (er != 0) = true := by simpa using her
          have HE := Lib.hid (HER.out 3 q1 er (by omega) HST her)
          clear her
          go_wp2_with (with_reducible refine end_at ?_)
          refine end_ret (v := .tuple #[.agg #[.slice none 0 0, .slice none 0 0], .bool false, .int .i64 er]) (by simp [results, Tryz.results84, go_sem, y0, y1, hyl]; try rfl) rfl ?_
          refine ⟨_, by rw [HE.out], ?_, ?_⟩
          · rw [HE.out]; exact ⟨none, 0, none, 0, rfl, World.ownsRow_nil _ _ _ _, World.ownsRow_nil _ _ _ _⟩
          · have := hB5
            go_grown
    · obtain rfl : k = N := by omega
      have HE := Lib.hid (HOK.out q HQ.out)
      have x0 := hX.cells 0 _ rfl
      have x1 := hX.cells 1 _ rfl
      have hxl := hX.lt
      have y0 := hY.cells 0 _ rfl
      have y1 := hY.cells 1 _ rfl
      have yf := hY.frozen
      have hyl := hY.lt
      simp only [List.getElem_toArray, List.getElem_cons_zero, List.getElem_cons_succ] at x0 x1 y0 y1
      have n1 := own_blk_ne HO.out.1 hY (by decide)
      have n2 := own_blk_ne HO.out.2 hY (by decide)
      clear hX hY
      by_cases hN4 : k = 4
      · subst hN4
        go_wp2_with (with_reducible refine end_at ?_)
        refine end_ret (v := .tuple #[.agg #[.slice A q.sectors.length c, .slice A' q.cache.length c'], .bool true, .int .i64 0]) (by simp [results, Tryz.results84, go_sem, y0, y1]; try rfl) rfl ?_
        refine ⟨.agg #[.slice A q.sectors.length c, .slice A' q.cache.length c'], by (rw [HE.out]; simp), ?_, ?_⟩
        · rw [HE.out]; exact ⟨A, c, A', c', rfl, own_far (own_far HO.out.1 n1 _ _) n1 _ _, own_far (own_far HO.out.2 n2 _ _) n2 _ _⟩
        · have := hBr
          go_grown
      · have t4 : ((k : Int) == 4) = false := by simp; omega
        have HN4 := Lib.hid (show decide (k = 4) = false by simpa using hN4)
        clear hN4
        go_wp2_with (with_reducible refine end_at ?_)
        refine end_ret (v := .tuple #[.agg #[.slice A q.sectors.length c, .slice A' q.cache.length c'], .bool false, .int .i64 0]) (by simp [results, Tryz.results84, go_sem, y0, y1]; try rfl) rfl ?_
        refine ⟨.agg #[.slice A q.sectors.length c, .slice A' q.cache.length c'], by (rw [HE.out]; simp only [HN4.out]), ?_, ?_⟩
        · rw [HE.out]; exact ⟨A, c, A', c', rfl, own_far (own_far HO.out.1 n1 _ _) n1 _ _, own_far (own_far HO.out.2 n2 _ _) n2 _ _⟩
        · have := hBr
          go_grown
end Go.Proofs.YtpkomloblhbkiaaGreatDoor
namespace Go.Proofs.YtpkomloblhbkiaaGreatDoor
open Go.RowKit
set_option maxHeartbeats 4000000 in
set_option maxRecDepth 100000 in
theorem do_neg (p : Plat) (i1 : Int) (s1 : ByteArray) (i2 : Int) (s2 : ByteArray) (a1 b1 a2 b2 g B : Nat) (A A' : Option Addr) (n m c d : Nat) (most : Int) (hneg : most < 0) (w : World) (hB : B ≤ w.heap.size)
    (HR : Hid (w.ownsRow B 9 1 (.slice A p.sectors.length c) p.sectors.length (flat encS p.sectors) ∧ w.ownsRow B 159 2 (.slice A' p.cache.length d) p.cache.length (flat encP p.cache)))
    (HW1 : WrOk w a1 b1 i1 s1) (HW2 : WrOk w a2 b2 i2 s2) (HD : Hid (Blk w g 147 #[.func (.func 82) #[] #[.pointer (some ⟨a1, 0, none⟩), .pointer (some ⟨b1, 0, none⟩)], .func (.func 86) #[] #[], .func (.func 82) #[] #[.pointer (some ⟨a2, 0, none⟩), .pointer (some ⟨b2, 0, none⟩)], .func (.func 86) #[] #[]])) :
    Calls Tryz.prog 84 #[.agg #[.slice A p.sectors.length c, .slice A' p.cache.length d], .int .i64 most, .slice (some ⟨g, 0, none⟩) 4 4] w (OutDo B w (doN p i1 s1 i2 s2 4)) := by
  skip
  have HER : Hid (∀ (k : Nat) (q1 : Plat) (er : Int), k < 4 → doTo p i1 s1 i2 s2 (k + 1) = (q1, er) → er ≠ 0 → doN p i1 s1 i2 s2 4 = (noPlat, false, er)) := fun k q1 er hk h1 h2 => doN_bad hk h1 h2
  have HOK : Hid (∀ q : Plat, doTo p i1 s1 i2 s2 4 = (q, 0) → doN p i1 s1 i2 s2 4 = (q, decide (4 = 4), 0)) := fun q h => doN_ok h
  go_enter Tryz.func84, Tryz.ntmps84
  go_wp2_with fail
  have hX0 : Blk ((w.alloc (.cells #[.slice A p.sectors.length c, .slice A' p.cache.length d] 42)).alloc (.cells #[.slice none 0 0, .slice none 0 0] 42)) w.heap.size 42 #[.slice A p.sectors.length c, .slice A' p.cache.length d] := (Blk.new w _ _).alloc _
  have hY0 : Blk ((w.alloc (.cells #[.slice A p.sectors.length c, .slice A' p.cache.length d] 42)).alloc (.cells #[.slice none 0 0, .slice none 0 0] 42)) (w.heap.size + 1) 42 #[.slice none 0 0, .slice none 0 0] := Blk.new_at (by simp) _ _
  go_loopw [27] (fun i wr => ∃ (k : Nat) (q : Plat) (A : Option Addr) (c : Nat) (A' : Option Addr) (c' : Nat), k ≤ 4 ∧ i = .int .i64 k ∧ Hid (doTo p i1 s1 i2 s2 k = (q, 0)) ∧ Below w.heap.size w wr ∧ Blk wr w.heap.size 42 #[.slice A q.sectors.length c, .slice A' q.cache.length c'] ∧ Blk wr (w.heap.size + 1) 42 #[.slice none 0 0, .slice none 0 0] ∧ Hid (wr.ownsRow B 9 1 (.slice A q.sectors.length c) q.sectors.length (flat encS q.sectors) ∧ wr.ownsRow B 159 2 (.slice A' q.cache.length c') q.cache.length (flat encP q.cache))) (fun i _ => 4 - (intOf i).toNat)
  case atStart => exact ⟨0, p, A, c, A', d, Nat.zero_le _, rfl, rfl, by go_grown, hX0, hY0, ⟨(HR.out.1.alloc _).alloc _, (HR.out.2.alloc _).alloc _⟩⟩
  case round =>
    obtain ⟨k, q, A, c, A', c', hk, rfl, HQ, hBr, hX, hY, HO⟩ := hrel
    rename_i wr _ _
    clear hX0 hY0
    by_cases hlt : k < 4
    · have HST := Lib.hid (doTo_next HQ.out)
      have hd := HD.out.below hBr HD.out.lt
      have HW1 := HW1.on hBr
      have HW2 := HW2.on hBr
      have HPq : PlatPre wr A q.sectors.length A' q.cache.length q := by
        obtain ⟨A6, c6, A6', c6', hv, h⟩ := PlatOut.at_ (B := B) (v := .agg #[.slice A q.sectors.length c, .slice A' q.cache.length c']) ⟨A, c, A', c', rfl, HO.out.1, HO.out.2⟩
        injection hv with hv
        injection hv with hv
        injection hv with hv1 hv2
        injection hv2 with hv2 _
        injection hv1 with hv1
        injection hv2 with hv2
        subst hv1; subst hv2
        exact h
      have x0 := hX.cells 0 _ rfl
      have x1 := hX.cells 1 _ rfl
      simp only [List.getElem_toArray, List.getElem_cons_zero, List.getElem_cons_succ] at x0 x1
      have hzr := hBr.size
      clear HO
      have hk4 : k < 4 := by omega
      have hkc : k = 0 ∨ k = 1 ∨ k = 2 ∨ k = 3 := by omega
      rcases hkc with rfl | rfl | rfl | rfl

      · have dk := hd.cells 0 _ rfl
        simp only [List.getElem_toArray, List.getElem_cons_zero] at dk
        rw [show deedF i1 s1 i2 s2 0 q = writeF q i1 s1 from rfl] at HST
        generalize hcl : writeF q i1 s1 = R at HST
        have HCL := Lib.hid hcl
        clear hcl hd
        obtain ⟨q1, er⟩ := R
        go_wp2_with fail
        refine (put11_any q i1 s1 a1 b1 A A' _ _ c c' _ (HPq.step (by go_grown)) (HW1.on (by go_grown))).mono ?_
        rintro e w5 ⟨v, rfl, ⟨A5, c5, A5', c5', rfl, ho1, ho2⟩, hb5⟩
        rw [HCL.out] at ho1 ho2 ⊢
        have hX5 := hX.below hb5 hX.lt
        have hY5 := hY.below hb5 hY.lt
        have hB5 := hBr.trans (hb5.mono hBr.size)
        have ho1 := own_base (base' := B) ho1 (by have := hBr.size; omega)
        have ho2 := own_base (base' := B) ho2 (by have := hBr.size; omega)
        have HO5 := Lib.hid (And.intro ho1 ho2)
        have x0 := hX5.cells 0 _ rfl
        have x1 := hX5.cells 1 _ rfl
        have xf := hX5.frozen
        have hxl := hX5.lt
        have y0 := hY5.cells 0 _ rfl
        have y1 := hY5.cells 1 _ rfl
        have yf := hY5.frozen
        have hyl := hY5.lt
        simp only [List.getElem_toArray, List.getElem_cons_zero, List.getElem_cons_succ] at x0 x1 y0 y1
        have HX5 := Lib.hid (And.intro hX5 hY5)
        clear ho1 ho2 hb5 hX hY hBr HPq hX5 hY5 dk
        by_cases her : er = 0
        · subst her
          go_wp2_with fail
          go_roundw
          case rel =>
            refine ⟨0 + 1, q1, A5, c5, A5', c5', by omega, by go_num, HST, ?_, ?_, ?_, ?_⟩
            · have := hB5
              go_grown
            · have := (((HX5.out.1.set_ 0 (.slice A5 q1.sectors.length c5)).set_ 1 (.slice A5' q1.cache.length c5'))).alloc (.cells #[.slice A5 q1.sectors.length c5, .slice A5' q1.cache.length c5'] 42)
              simpa using this
            · exact ((HX5.out.2.far (p := ⟨w.heap.size, 0, none⟩) (by simp) _).far (p := ⟨w.heap.size, 1, none⟩) (by simp) _).alloc _
            · have h1 := HO5.out.1
              have h2 := HO5.out.2
              have n1 := own_blk_ne h1 HX5.out.1 (by decide)
              have n2 := own_blk_ne h2 HX5.out.1 (by decide)
              exact ⟨(own_far (own_far h1 n1 _ _) n1 _ _).alloc _, (own_far (own_far h2 n2 _ _) n2 _ _).alloc _⟩
          case measure => simp [intOf] <;> omega
        · have t1 : (er != 0) = true := by simpa using her
          have HE := Lib.hid (HER.out 0 q1 er (by omega) HST her)
          clear her
          go_wp2_with (with_reducible refine end_at ?_)
          refine end_ret (v := .tuple #[.agg #[.slice none 0 0, .slice none 0 0], .bool false, .int .i64 er]) (by simp [results, Tryz.results84, go_sem, y0, y1, hyl]; try rfl) rfl ?_
          refine ⟨_, by rw [HE.out], ?_, ?_⟩
          · rw [HE.out]; exact ⟨none, 0, none, 0, rfl, World.ownsRow_nil _ _ _ _, World.ownsRow_nil _ _ _ _⟩
          · have := hB5
            go_grown
      · have dk := hd.cells 1 _ rfl
        simp only [List.getElem_toArray, List.getElem_cons_zero, List.getElem_cons_succ] at dk
        rw [show deedF i1 s1 i2 s2 1 q = syncF q from rfl] at HST
        generalize hcl : syncF q = R at HST
        have HCL := Lib.hid hcl
        clear hcl hd
        obtain ⟨q1, er⟩ := R
        go_wp2_with fail
        refine (sync_any q A A' _ _ c c' _ (HPq.step (by go_grown))).mono ?_
        rintro e w5 ⟨v, rfl, ⟨A5, c5, A5', c5', rfl, ho1, ho2⟩, hb5⟩
        rw [HCL.out] at ho1 ho2 ⊢
        have hX5 := hX.below hb5 hX.lt
        have hY5 := hY.below hb5 hY.lt
        have hB5 := hBr.trans (hb5.mono hBr.size)
        have ho1 := own_base (base' := B) ho1 (by have := hBr.size; omega)
        have ho2 := own_base (base' := B) ho2 (by have := hBr.size; omega)
        have HO5 := Lib.hid (And.intro ho1 ho2)
        have x0 := hX5.cells 0 _ rfl
        have x1 := hX5.cells 1 _ rfl
        have xf := hX5.frozen
        have hxl := hX5.lt
        have y0 := hY5.cells 0 _ rfl
        have y1 := hY5.cells 1 _ rfl
        have yf := hY5.frozen
        have hyl := hY5.lt
        simp only [List.getElem_toArray, List.getElem_cons_zero, List.getElem_cons_succ] at x0 x1 y0 y1
        have HX5 := Lib.hid (And.intro hX5 hY5)
        clear ho1 ho2 hb5 hX hY hBr HPq hX5 hY5 dk
        by_cases her : er = 0
        · subst her
          go_wp2_with fail
          go_roundw
          case rel =>
            refine ⟨1 + 1, q1, A5, c5, A5', c5', by omega, by go_num, HST, ?_, ?_, ?_, ?_⟩
            · have := hB5
              go_grown
            · have := (((HX5.out.1.set_ 0 (.slice A5 q1.sectors.length c5)).set_ 1 (.slice A5' q1.cache.length c5'))).alloc (.cells #[.slice A5 q1.sectors.length c5, .slice A5' q1.cache.length c5'] 42)
              simpa using this
            · exact ((HX5.out.2.far (p := ⟨w.heap.size, 0, none⟩) (by simp) _).far (p := ⟨w.heap.size, 1, none⟩) (by simp) _).alloc _
            · have h1 := HO5.out.1
              have h2 := HO5.out.2
              have n1 := own_blk_ne h1 HX5.out.1 (by decide)
              have n2 := own_blk_ne h2 HX5.out.1 (by decide)
              exact ⟨(own_far (own_far h1 n1 _ _) n1 _ _).alloc _, (own_far (own_far h2 n2 _ _) n2 _ _).alloc _⟩
          case measure => simp [intOf] <;> omega
        · have t1 : (er != 0) = true := by simpa using her
          have HE := Lib.hid (HER.out 1 q1 er (by omega) HST her)
          clear her
          go_wp2_with (with_reducible refine end_at ?_)
          refine end_ret (v := .tuple #[.agg #[.slice none 0 0, .slice none 0 0], .bool false, .int .i64 er]) (by simp [results, Tryz.results84, go_sem, y0, y1, hyl]; try rfl) rfl ?_
          refine ⟨_, by rw [HE.out], ?_, ?_⟩
          · rw [HE.out]; exact ⟨none, 0, none, 0, rfl, World.ownsRow_nil _ _ _ _, World.ownsRow_nil _ _ _ _⟩
          · have := hB5
            go_grown
      · have dk := hd.cells 2 _ rfl
        simp only [List.getElem_toArray, List.getElem_cons_zero, List.getElem_cons_succ] at dk
        rw [show deedF i1 s1 i2 s2 2 q = writeF q i2 s2 from rfl] at HST
        generalize hcl : writeF q i2 s2 = R at HST
        have HCL := Lib.hid hcl
        clear hcl hd
        obtain ⟨q1, er⟩ := R
        go_wp2_with fail
        refine (put11_any q i2 s2 a2 b2 A A' _ _ c c' _ (HPq.step (by go_grown)) (HW2.on (by go_grown))).mono ?_
        rintro e w5 ⟨v, rfl, ⟨A5, c5, A5', c5', rfl, ho1, ho2⟩, hb5⟩
        rw [HCL.out] at ho1 ho2 ⊢
        have hX5 := hX.below hb5 hX.lt
        have hY5 := hY.below hb5 hY.lt
        have hB5 := hBr.trans (hb5.mono hBr.size)
        have ho1 := own_base (base' := B) ho1 (by have := hBr.size; omega)
        have ho2 := own_base (base' := B) ho2 (by have := hBr.size; omega)
        have HO5 := Lib.hid (And.intro ho1 ho2)
        have x0 := hX5.cells 0 _ rfl
        have x1 := hX5.cells 1 _ rfl
        have xf := hX5.frozen
        have hxl := hX5.lt
        have y0 := hY5.cells 0 _ rfl
        have y1 := hY5.cells 1 _ rfl
        have yf := hY5.frozen
        have hyl := hY5.lt
        simp only [List.getElem_toArray, List.getElem_cons_zero, List.getElem_cons_succ] at x0 x1 y0 y1
        have HX5 := Lib.hid (And.intro hX5 hY5)
        clear ho1 ho2 hb5 hX hY hBr HPq hX5 hY5 dk
        by_cases her : er = 0
        · subst her
          go_wp2_with fail
          go_roundw
          case rel =>
            refine ⟨2 + 1, q1, A5, c5, A5', c5', by omega, by go_num, HST, ?_, ?_, ?_, ?_⟩
            · have := hB5
              go_grown
            · have := (((HX5.out.1.set_ 0 (.slice A5 q1.sectors.length c5)).set_ 1 (.slice A5' q1.cache.length c5'))).alloc (.cells #[.slice A5 q1.sectors.length c5, .slice A5' q1.cache.length c5'] 42)
              simpa using this
            · exact ((HX5.out.2.far (p := ⟨w.heap.size, 0, none⟩) (by simp) _).far (p := ⟨w.heap.size, 1, none⟩) (by simp) _).alloc _
            · have h1 := HO5.out.1
              have h2 := HO5.out.2
              have n1 := own_blk_ne h1 HX5.out.1 (by decide)
              have n2 := own_blk_ne h2 HX5.out.1 (by decide)
              exact ⟨(own_far (own_far h1 n1 _ _) n1 _ _).alloc _, (own_far (own_far h2 n2 _ _) n2 _ _).alloc _⟩
          case measure => simp [intOf] <;> omega
        · have t1 : (er != 0) = true := by simpa using her
          have HE := Lib.hid (HER.out 2 q1 er (by omega) HST her)
          clear her
          go_wp2_with (with_reducible refine end_at ?_)
          refine end_ret (v := .tuple #[.agg #[.slice none 0 0, .slice none 0 0], .bool false, .int .i64 er]) (by simp [results, Tryz.results84, go_sem, y0, y1, hyl]; try rfl) rfl ?_
          refine ⟨_, by rw [HE.out], ?_, ?_⟩
          · rw [HE.out]; exact ⟨none, 0, none, 0, rfl, World.ownsRow_nil _ _ _ _, World.ownsRow_nil _ _ _ _⟩
          · have := hB5
            go_grown
      · have dk := hd.cells 3 _ rfl
        simp only [List.getElem_toArray, List.getElem_cons_zero, List.getElem_cons_succ] at dk
        rw [show deedF i1 s1 i2 s2 3 q = syncF q from rfl] at HST
        generalize hcl : syncF q = R at HST
        have HCL := Lib.hid hcl
        clear hcl hd
        obtain ⟨q1, er⟩ := R
        go_wp2_with fail
        refine (sync_any q A A' _ _ c c' _ (HPq.step (by go_grown))).mono ?_
        rintro e w5 ⟨v, rfl, ⟨A5, c5, A5', c5', rfl, ho1, ho2⟩, hb5⟩
        rw [HCL.out] at ho1 ho2 ⊢
        have hX5 := hX.below hb5 hX.lt
        have hY5 := hY.below hb5 hY.lt
        have hB5 := hBr.trans (hb5.mono hBr.size)
        have ho1 := own_base (base' := B) ho1 (by have := hBr.size; omega)
        have ho2 := own_base (base' := B) ho2 (by have := hBr.size; omega)
        have HO5 := Lib.hid (And.intro ho1 ho2)
        have x0 := hX5.cells 0 _ rfl
        have x1 := hX5.cells 1 _ rfl
        have xf := hX5.frozen
        have hxl := hX5.lt
        have y0 := hY5.cells 0 _ rfl
        have y1 := hY5.cells 1 _ rfl
        have yf := hY5.frozen
        have hyl := hY5.lt
        simp only [List.getElem_toArray, List.getElem_cons_zero, List.getElem_cons_succ] at x0 x1 y0 y1
        have HX5 := Lib.hid (And.intro hX5 hY5)
        clear ho1 ho2 hb5 hX hY hBr HPq hX5 hY5 dk
        by_cases her : er = 0
        · subst her
          go_wp2_with fail
          go_roundw
          case rel =>
            refine ⟨3 + 1, q1, A5, c5, A5', c5', by omega, by go_num, HST, ?_, ?_, ?_, ?_⟩
            · have := hB5
              go_grown
            · have := (((HX5.out.1.set_ 0 (.slice A5 q1.sectors.length c5)).set_ 1 (.slice A5' q1.cache.length c5'))).alloc (.cells #[.slice A5 q1.sectors.length c5, .slice A5' q1.cache.length c5'] 42)
              simpa using this
            · exact ((HX5.out.2.far (p := ⟨w.heap.size, 0, none⟩) (by simp) _).far (p := ⟨w.heap.size, 1, none⟩) (by simp) _).alloc _
            · have h1 := HO5.out.1
              have h2 := HO5.out.2
              have n1 := own_blk_ne h1 HX5.out.1 (by decide)
              have n2 := own_blk_ne h2 HX5.out.1 (by decide)
              exact ⟨(own_far (own_far h1 n1 _ _) n1 _ _).alloc _, (own_far (own_far h2 n2 _ _) n2 _ _).alloc _⟩
          case measure => simp [intOf] <;> omega
        · have t1 : (er != 0) = true := by simpa using her
          have HE := Lib.hid (HER.out 3 q1 er (by omega) HST her)
          clear her
          go_wp2_with (with_reducible refine end_at ?_)
          refine end_ret (v := .tuple #[.agg #[.slice none 0 0, .slice none 0 0], .bool false, .int .i64 er]) (by simp [results, Tryz.results84, go_sem, y0, y1, hyl]; try rfl) rfl ?_
          refine ⟨_, by rw [HE.out], ?_, ?_⟩
          · rw [HE.out]; exact ⟨none, 0, none, 0, rfl, World.ownsRow_nil _ _ _ _, World.ownsRow_nil _ _ _ _⟩
          · have := hB5
            go_grown
    · obtain rfl : k = 4 := by omega
      have HE := Lib.hid (HOK.out q HQ.out)
      have x0 := hX.cells 0 _ rfl
      have x1 := hX.cells 1 _ rfl
      have hxl := hX.lt
      have y0 := hY.cells 0 _ rfl
      have y1 := hY.cells 1 _ rfl
      have yf := hY.frozen
      have hyl := hY.lt
      simp only [List.getElem_toArray, List.getElem_cons_zero, List.getElem_cons_succ] at x0 x1 y0 y1
      have n1 := own_blk_ne HO.out.1 hY (by decide)
      have n2 := own_blk_ne HO.out.2 hY (by decide)
      clear hX hY
      go_wp2_with (with_reducible refine end_at ?_)
      refine end_ret (v := .tuple #[.agg #[.slice A q.sectors.length c, .slice A' q.cache.length c'], .bool true, .int .i64 0]) (by simp [results, Tryz.results84, go_sem, y0, y1]; try rfl) rfl ?_
      refine ⟨.agg #[.slice A q.sectors.length c, .slice A' q.cache.length c'], by (rw [HE.out]; simp), ?_, ?_⟩
      · rw [HE.out]; exact ⟨A, c, A', c', rfl, own_far (own_far HO.out.1 n1 _ _) n1 _ _, own_far (own_far HO.out.2 n2 _ _) n2 _ _⟩
      · have := hBr
        go_grown
end Go.Proofs.YtpkomloblhbkiaaGreatDoor
