/- chapter 15, NonceFresh: the walk. -/
import Derived.Test.YtefodifmfjpnlaaDoorNonL
import Derived.Test.YtefodifmfjpnlaaDoorNonH
import Derived.Test.YtefodifmfjpnlaaDoorNonLaw
import Derived.Deep.CutRange
set_option linter.unusedVariables false
namespace Go.Proofs.YtefodifmfjpnlaaDoor
open Go.RowKit
theorem SlC.nop {w : World} {b off : Nat} {L : List NOp} (h : SlC encO 3 w b off L) {k : Nat} {o : NOp} (hl : L[k]? = some o) :
    w.cell? ⟨b, off + k * 3, none⟩ = some (.int .i64 o.kind) ∧ w.cell? ⟨b, off + k * 3 + 1, none⟩ = some (.int .i64 o.deeds) ∧ w.cell? ⟨b, off + k * 3 + 2, none⟩ = some (.slice o.a o.n o.c) :=
  ⟨h k o hl 0 _ rfl, h k o hl 1 _ rfl, h k o hl 2 _ rfl⟩
theorem Blk.far_at {w : World} {g : Nat} {t : TypeId} {cs : Array Value} (h : Blk w g t cs) {b : Nat} (hne : g ≠ b) (o : Nat) (u : Value) : Blk (w.setCell ⟨b, o, none⟩ u) g t cs := h.far (p := ⟨b, o, none⟩) hne u
theorem rows_pre5 {w : World} {B n m : Nat} {p : Plat} {A A' : Option Addr} {c c' : Nat} (h : p.sectors.length = n ∧ p.cache.length = m) (h1 : w.ownsRow B 9 1 (.slice A n c) n (flat encS p.sectors)) (h2 : w.ownsRow B 52 2 (.slice A' m c') m (flat encP p.cache)) : PlatPre w A n A' m p :=
  PlatAt.pre ⟨SlR.of_own encS_len h1 h.1, SlR.of_own encP_len h2 h.2⟩
/-- what Next tells is not told yet -/
theorem fresh_ne {nx : Nat} {all : List ByteArray} (hnx : nx ≤ 2000) (h : ∀ x ∈ all, ∃ j, j < nx ∧ x = nonB j) : ∀ x ∈ all, ((nonB nx).toList == x.toList) = false := by
  intro x hx
  obtain ⟨j, hj, rfl⟩ := h x hx
  rw [nonB_eq (by omega) (by omega)]
  exact decide_eq_false (by omega)
theorem empty_ne {nx : Nat} {all : List ByteArray} (h : ∀ x ∈ all, ∃ j, j < nx ∧ x = nonB j) : ∀ x ∈ all, ((⟨#[]⟩ : ByteArray).toList == x.toList) = false := by
  intro x hx
  obtain ⟨j, hj, rfl⟩ := h x hx
  have hl : (nonB j).toList.length = 12 := by rw [ByteArray.toList_eq, Array.length_toList]; exact nonB_size j
  cases e : (nonB j).toList with
  | nil => rw [e] at hl; simp at hl
  | cons a l => rw [ByteArray.toList_eq]; rfl
theorem nonB_ne_empty (n : Nat) : ((nonB n).toList == (⟨#[]⟩ : ByteArray).toList) = false := by
  have hl : (nonB n).toList.length = 12 := by rw [ByteArray.toList_eq, Array.length_toList]; exact nonB_size n
  cases e : (nonB n).toList with
  | nil => rw [e] at hl; simp at hl
  | cons a l => rw [ByteArray.toList_eq]; rfl
theorem keep_ne {B : Nat} {v u : Value} (hv : ∀ k, v.ownBlock = some k → B ≤ k) (hu : ∀ k, u.ownBlock = some k → k < B) : v.ownBlock = none ∨ v.ownBlock ≠ u.ownBlock := by
  cases h : v.ownBlock with
  | none => exact .inl rfl
  | some k =>
    refine .inr fun e => ?_
    have := hv k h
    have := hu k e.symm
    omega
set_option maxHeartbeats 8000000 in
set_option maxRecDepth 100000 in
theorem fresh_walk (L : List NOp) (A : Option Addr) (n c : Nat) (w : World) (hn : n ≤ 100) (HL : Hid (∀ W, Below w.heap.size w W → SlR encO 3 W W.heap.size A n L ∧ ∀ x ∈ L, NOpOk W x)) (hG : Pows w) :
    Calls Tryd.prog 7 #[.slice A n c] w fun e w' => e = .returned (.bool true) ∧ Below w.heap.size w w' := by
  have HG : HPows w := Lib.hid hG
  have HG0 : HPows w := Lib.hid hG
  clear hG
  obtain ⟨i0, hi0, hz0, hz1, hz2⟩ := info_parts str_info
  go_enter Tryd.func7, Tryd.ntmps7
  go_wp2_with fail
  refine (new_any 5 _).mono ?_
  rintro e w1 ⟨v, rfl, hO1, hb1⟩
  have hs1 : Below w.heap.size w w1 := Below.trans (by go_grown) (hb1.mono (by first | (simp; done) | (simp; omega)))
  have HG_1 := HG.on hs1
  have hB_1 := hs1
  rw [fresh_new] at hO1 ⊢
  dsimp only at hO1 ⊢
  obtain ⟨Aa, ca, Aa', ca', rfl, hc1, hc2⟩ := hO1
  rw [(fgood_len fresh_good).1] at hc1 ⊢
  rw [(fgood_len fresh_good).2] at hc2 ⊢
  have HC := Lib.hid (And.intro hc1 hc2)
  clear hc1 hc2
  have hz_1 := hs1.size
  clear hb1 HG hs1
  go_wp2_with fail
  refine (nopen_any P55 1 Aa Aa' 5 0 ca ca' _ ((rows_pre5 (fgood_len fresh_good) HC.out.1 HC.out.2).step (by go_grown))).mono ?_
  rintro e w2 ⟨rfl, hb2⟩
  have hs2 : Below w1.heap.size w1 w2 := Below.trans (by go_grown) (hb2.mono (by first | (simp; done) | (simp; omega)))
  have HG_2 := HG_1.on hs2
  have HR_2 := Lib.hid (And.intro (own_below HC.out.1 hs2 (Nat.le_refl _)) (own_below HC.out.2 hs2 (Nat.le_refl _)))
  have X_2 := (Blk.new_at (g := w1.heap.size) (by simp) _ _).below hb2 (by first | (simp; done) | (simp; omega))
  have hB_2 := hB_1.trans (hs2.mono hB_1.size)
  rw [fgood_open fresh_good (by decide)]
  unfold srcV
  dsimp only
  have hz_2 := hs2.size
  clear hb2 HG_1 HC hB_1 hs2
  go_wp2_with fail
  have hSS := Blk.new_at (w := w2) rfl 28 #[.int .i64 1, .int .i64 0, .int .i64 0]
  have hXX := X_2.alloc (.cells #[.int .i64 1, .int .i64 0, .int .i64 0] 28)
  have HRR := Lib.hid (And.intro (HR_2.out.1.alloc (.cells #[.int .i64 1, .int .i64 0, .int .i64 0] 28)) (HR_2.out.2.alloc (.cells #[.int .i64 1, .int .i64 0, .int .i64 0] 28)))
  have HBB := Lib.hid hB_2
  clear X_2 HR_2 hB_2 HG_2
  go_loopw [7, 8] (fun mv iv wr => ∃ (i r nx : Nat) (q : Plat) (A1 : Option Addr) (c1 : Nat) (A1' : Option Addr) (c1' : Nat) (all : List ByteArray) (A7 : Option Addr) (m7 c7 : Nat), i ≤ n ∧ iv = .int .i64 i ∧ mv = .slice A7 m7 c7 ∧ m7 ≤ i ∧ r ≤ i ∧ nx ≤ 16 * r ∧ Hid (FGood q r) ∧ Hid (∀ x ∈ all, ∃ j, j < nx ∧ x = nonB j) ∧ Hid (all.length = m7) ∧ Below w.heap.size w wr ∧
    Hid (Blk wr w1.heap.size 25 #[.slice A1 5 c1, .slice A1' 0 c1']) ∧ Hid (Blk wr w2.heap.size 28 #[.int .i64 1, .int .i64 nx, .int .i64 ((16 * r : Nat) : Int)]) ∧
    Hid (wr.ownsRow w.heap.size 9 1 (.slice A1 5 c1) 5 (flat encS q.sectors) ∧ wr.ownsRow w.heap.size 52 2 (.slice A1' 0 c1') 0 (flat encP q.cache)) ∧ Hid (wr.ownsRow w.heap.size 9 1 (.slice A7 m7 c7) m7 (flat encS all))) (fun _ iv _ => n - (intOf iv).toNat)
  case atStart => exact ⟨0, 0, 0, P55, Aa, ca, Aa', ca', [], none, 0, 0, Nat.zero_le _, rfl, rfl, Nat.le_refl _, Nat.le_refl _, Nat.zero_le _, Lib.hid fresh_good, Lib.hid (fun x hx => by cases hx), Lib.hid rfl, by have := HBB.out; go_grown, Lib.hid hXX, Lib.hid hSS, HRR, Lib.hid (World.ownsRow_nil _ _ _ _)⟩
  case round =>
    clear hSS hXX HRR HBB
    obtain ⟨i, r, nx, q, A1, c1, A1', c1', all, A7, m7, c7, hi, rfl, rfl, hm7, hri, hnr, HQ, HALL, HLEN, hBr, HX, HS, HR, HM⟩ := hrel
    obtain ⟨wo, rfl⟩ : ∃ W : World, W = wr := ⟨wr, rfl⟩
    have hX := HX.out
    have hS := HS.out
    have hzr := hBr.size
    have hsl0 := hS.lt
    have hxl0 := hX.lt
    clear HX HS
    by_cases hlt : i < n
    · obtain ⟨o, ho⟩ : ∃ x, L[i]? = some x := ⟨L[i]'(by have := (HL.out _ hBr).1.1; omega), List.getElem?_eq_getElem _⟩
      have HLr := (HL.out _ hBr).1
      rcases HLr.2 with h0 | ⟨bL, oL, rfl, hbL, hCL⟩
      · omega
      obtain ⟨x0, x1, x2⟩ := hCL.nop ho
      have HMEM := Lib.hid (List.mem_of_getElem? ho)
      have HOK : Hid (∀ W, Below w.heap.size w W → NOpOk W o) := fun W hb => (HL.out W hb).2 o HMEM.out
      obtain ⟨kd, dd, AF, nF, cF, F⟩ := o
      dsimp only at x0 x1 x2
      have hFn := (HOK.out _ hBr).2.1
      dsimp only at hFn
      clear hCL HLr ho HMEM
      have hGr := HG0.on hBr
      have hMbr : Hid (Blk wo w1.heap.size 25 #[.slice A1 5 c1, .slice A1' 0 c1']) := Lib.hid hX
      by_cases hFl : 300 < nF
      · go_wp2_with fail
        refine (ntold_any _ (hGr.step (by go_grown))).mono ?_
        rintro e w3 ⟨rfl, hb3⟩
        go_wp2_with fail
        go_ret
        exact ⟨rfl, hBr.trans (Below.trans (by go_grown) (hb3.mono (by simp; omega)))⟩
      clear hMbr
      have hgr := HQ.out
      obtain ⟨L0, hL0⟩ : ∃ x, 16 * r = x := ⟨_, rfl⟩
      by_cases hk1 : kd = 1
      · subst hk1
        have HMW : Hid (∀ k, (Value.slice A7 m7 c7).ownBlock = some k → k < wo.heap.size) := Lib.hid (fun k h => (HM.out.lt k h).2)
        rcases fresh_step hgr (by omega) hnr dd with ⟨a, r2, hnx, hga, hn2, hr2⟩ | ⟨a, hnx, hlens, hcrash⟩
        · have HGA := Lib.hid hga
          obtain ⟨L2, hL2⟩ : ∃ x, 16 * r2 = x := ⟨_, rfl⟩
          obtain ⟨B, hB9⟩ : ∃ x, nonB nx = x := ⟨_, rfl⟩
          have HNO := Lib.hid (fresh_ne (by omega) HALL.out)
          have hbe := nonB_ne_empty nx
          rw [hB9] at HNO hbe hnx
          have HBE := Lib.hid hB9.symm
          have hbe2 : B.toList ≠ [] := by
            rw [← hB9]
            intro e
            have h9 : (nonB nx).toList.length = 12 := by
              rw [ByteArray.toList_eq, Array.length_toList]
              exact nonB_size nx
            rw [e] at h9
            cases h9
          have hbe3 : (B.toList == []) = false := by simpa using hbe2
          rw [hL0, hL2] at hnx
          rw [hL0] at hS hnr
          rw [hL2] at hn2
          clear hga hB9 hgr
          have HP := rows_pre5 (fgood_len HQ.out) HR.out.1 HR.out.2
          have HNX := Lib.hid hnx
          clear hnx
          have qX_0a := hX.cells 0 _ rfl
          have qX_1a := hX.cells 1 _ rfl
          have qlXa := hX.lt
          have qS_0a := hS.cells 0 _ rfl
          have qS_1a := hS.cells 1 _ rfl
          have qS_2a := hS.cells 2 _ rfl
          have qlSa := hS.lt
          simp only [List.getElem_toArray, List.getElem_cons_zero, List.getElem_cons_succ] at qX_0a qX_1a qS_0a qS_1a qS_2a
          go_wp2_with fail
          refine (next_any q ⟨1, (nx : Int), (L0 : Int)⟩ dd A1 A1' 5 0 c1 c1' _ (HP.step (by go_grown)) (by omega) (by omega) (hGr.step (by go_grown))).mono ?_
          rintro e wa1 ⟨v, rfl, hO3, hb3⟩
          clear qlXa qlSa qX_0a qX_1a qS_0a qS_1a qS_2a
          have hsa1 : Below wo.heap.size wo wa1 := Below.trans (by go_grown) (hb3.mono (by first | (simp; done) | (simp; omega)))
          have X_a1 := hX.below hsa1 hX.lt
          have S_a1 := hS.below hsa1 hS.lt
          have HG_a1 := hGr.on hsa1
          have HM_a1 := Lib.hid (own_below HM.out hsa1 (Nat.le_refl _))
          have O_a1 := (Blk.new_at (g := wo.heap.size) (by simp) _ _).below hb3 (by first | (simp; done) | (simp; omega))
          have hBa_1 := hBr.trans (hsa1.mono hBr.size)
          rw [HNX.out] at hO3 ⊢
          unfold srcV
          dsimp only at hO3 ⊢
          obtain ⟨A3, c3, A3', c3', rfl, hc1, hc2⟩ := hO3
          rw [(fgood_len HGA.out).1] at hc1 ⊢
          rw [(fgood_len HGA.out).2] at hc2 ⊢
          have HC := Lib.hid (And.intro (own_base (base' := wo.heap.size) hc1 (by simp)) (own_base (base' := wo.heap.size) hc2 (by simp)))
          clear hc1 hc2 HP HR x0 x1 x2
          have hza_1 := hsa1.size
          clear hb3 hX hS hGr HM hBr hsa1
          go_wp2_with fail
          have HX1 := Lib.hid ((X_a1.alloc (.cells #[.int .i64 1, .int .i64 ((nx + 1 : Nat) : Int), .int .i64 (L2 : Int)] 28)).alloc (.cells #[.slice A3 5 c3, .slice A3' 0 c3'] 25))
          have HS1 := Lib.hid ((S_a1.alloc (.cells #[.int .i64 1, .int .i64 ((nx + 1 : Nat) : Int), .int .i64 (L2 : Int)] 28)).alloc (.cells #[.slice A3 5 c3, .slice A3' 0 c3'] 25))
          have HO1 := Lib.hid ((O_a1.alloc (.cells #[.int .i64 1, .int .i64 ((nx + 1 : Nat) : Int), .int .i64 (L2 : Int)] 28)).alloc (.cells #[.slice A3 5 c3, .slice A3' 0 c3'] 25))
          have HR1 := Lib.hid (And.intro ((HC.out.1.alloc (.cells #[.int .i64 1, .int .i64 ((nx + 1 : Nat) : Int), .int .i64 (L2 : Int)] 28)).alloc (.cells #[.slice A3 5 c3, .slice A3' 0 c3'] 25)) ((HC.out.2.alloc (.cells #[.int .i64 1, .int .i64 ((nx + 1 : Nat) : Int), .int .i64 (L2 : Int)] 28)).alloc (.cells #[.slice A3 5 c3, .slice A3' 0 c3'] 25)))
          have HM1 := Lib.hid ((HM_a1.out.alloc (.cells #[.int .i64 1, .int .i64 ((nx + 1 : Nat) : Int), .int .i64 (L2 : Int)] 28)).alloc (.cells #[.slice A3 5 c3, .slice A3' 0 c3'] 25))
          have HT1 := Lib.hid ((Blk.new_at (w := wa1) rfl 28 #[.int .i64 1, .int .i64 ((nx + 1 : Nat) : Int), .int .i64 (L2 : Int)]).alloc (.cells #[.slice A3 5 c3, .slice A3' 0 c3'] 25))
          have HQ1 := Lib.hid (Blk.new_at (w := wa1.alloc (.cells #[.int .i64 1, .int .i64 ((nx + 1 : Nat) : Int), .int .i64 (L2 : Int)] 28)) (g := wa1.heap.size + 1) (by simp) 25 #[.slice A3 5 c3, .slice A3' 0 c3'])
          have HB1 : Hid (Below w.heap.size w ((wa1.alloc (.cells #[.int .i64 1, .int .i64 ((nx + 1 : Nat) : Int), .int .i64 (L2 : Int)] 28)).alloc (.cells #[.slice A3 5 c3, .slice A3' 0 c3'] 25))) := by have := hBa_1; exact Lib.hid (by go_grown)
          have HG1 := HG0.on HB1.out
          have hzW := hBa_1.size
          clear X_a1 S_a1 O_a1 HC HM_a1 hBa_1 HG_a1
          go_loopw [14] (fun iv wx => ∃ j : Nat, j ≤ m7 ∧ iv = .int .i64 j ∧ Below w.heap.size w wx ∧ Hid (Blk wx w1.heap.size 25 #[.slice A1 5 c1, .slice A1' 0 c1']) ∧ Hid (Blk wx w2.heap.size 28 #[.int .i64 1, .int .i64 nx, .int .i64 (L0 : Int)]) ∧ Hid (Blk wx wo.heap.size 48 #[.int .i64 1, .int .i64 dd, .slice AF nF cF]) ∧
            Hid (Blk wx wa1.heap.size 28 #[.int .i64 1, .int .i64 ((nx + 1 : Nat) : Int), .int .i64 (L2 : Int)]) ∧ Hid (Blk wx (wa1.heap.size + 1) 25 #[.slice A3 5 c3, .slice A3' 0 c3']) ∧
            Hid (wx.ownsRow wo.heap.size 9 1 (.slice A3 5 c3) 5 (flat encS a.sectors) ∧ wx.ownsRow wo.heap.size 52 2 (.slice A3' 0 c3') 0 (flat encP a.cache)) ∧ Hid (wx.ownsRow w.heap.size 9 1 (.slice A7 m7 c7) m7 (flat encS all))) (fun iv _ => m7 - (intOf iv).toNat)
          case atStart => exact ⟨0, Nat.zero_le _, rfl, HB1.out, HX1, HS1, HO1, HT1, HQ1, HR1, HM1⟩
          case round =>
            clear HX1 HS1 HO1 HT1 HQ1 HR1 HM1 HG1 HB1
            obtain ⟨j, hj, rfl, hBx, HX, HS, HO, HT, HQ2, HR, HM⟩ := hrel
            obtain ⟨wx, rfl⟩ : ∃ W : World, W = wr := ⟨wr, rfl⟩
            have hGx := HG0.on hBx
            by_cases hjl : j < m7
            · have hSl := SlR.of_own encS_len HM.out HLEN.out
              rcases hSl.2 with h0 | ⟨b7, o7, rfl, hb7, hC7⟩
              · omega
              obtain ⟨y, hy⟩ : ∃ y, all[j]? = some y := ⟨all[j]'(by rw [HLEN.out]; omega), List.getElem?_eq_getElem _⟩
              have y0 := hC7.str hy
              have hyn := HNO.out y (List.mem_of_getElem? hy)
              clear hSl hC7 hy
              have HBx := Lib.hid hBx
              clear hBx
              go_wp2_with fail
              go_roundw
              case rel => exact ⟨j + 1, by omega, by go_num, HBx.out, HX, HS, HO, HT, HQ2, HR, HM⟩
              case measure => simp [intOf]; omega
            · obtain rfl : j = m7 := by omega
              have t0 := HT.out.cells 0 _ rfl
              have t1 := HT.out.cells 1 _ rfl
              have t2 := HT.out.cells 2 _ rfl
              have u0 := HQ2.out.cells 0 _ rfl
              have u1 := HQ2.out.cells 1 _ rfl
              have z0 := HX.out.cells 0 _ rfl
              have z1 := HX.out.cells 1 _ rfl
              have s0 := HS.out.cells 0 _ rfl
              have s1 := HS.out.cells 1 _ rfl
              have s2 := HS.out.cells 2 _ rfl
              have zf := HX.out.frozen
              have sf := HS.out.frozen
              have tl := HT.out.lt
              have ul := HQ2.out.lt
              have zl := HX.out.lt
              have sl := HS.out.lt
              have hne1 := Blk.ne_ HX.out HS.out (by decide)
              have HNE := Lib.hid (And.intro hne1 hne1.symm)
              have hne2 := hne1.symm
              simp only [List.getElem_toArray, List.getElem_cons_zero, List.getElem_cons_succ] at t0 t1 t2 u0 u1 z0 z1 s0 s1 s2
              have mx := own_blk_ne HM.out HX.out (by decide)
              have ms := own_blk_ne HM.out HS.out (by decide)
              have mt := own_blk_ne HM.out HT.out (by decide)
              have mq := own_blk_ne HM.out HQ2.out (by decide)
              have HBx := Lib.hid hBx
              have hzx := hBx.size
              have hm100 : j ≤ 100 := by omega
              clear hBx
              clear t0 t1 t2 u0 u1 z0 z1 s0 s1 s2 zf sf tl ul zl sl
              have KX := HX.out.alloc (.cells #[.string B] 9)
              have KS := HS.out.alloc (.cells #[.string B] 9)
              have KT := HT.out.alloc (.cells #[.string B] 9)
              have KQ := HQ2.out.alloc (.cells #[.string B] 9)
              go_wp2_with (at_builtin; go_loud (refine wpList_append_any _ rfl (.tmp 81) (.tmp 83) _ rfl w.heap.size _ i0 _ 1 16 Tryd.underlying22 hi0 hz0 hz1 hz2 rfl (by omega) (.slice A7 j c7) j (flat encS all) rfl (HM.out.alloc _) (wx.heap.size + 1) (some ⟨wx.heap.size, 0, none⟩) 1 1 [.string B] rfl (Reads.new_at rfl 9 #[.string B] rfl) (one_flatS [B]) (by simp only [maxLen]; omega) (by omega) (by simp; omega) ?_; intro v1 w8 hown1 hg1 hat1; have hX8 := KX.grown hg1 (fun h => mx h.symm); have hS8 := KS.grown hg1 (fun h => ms h.symm); have hT8 := KT.grown hg1 (fun h => mt h.symm); have hQ8 := KQ.grown hg1 (fun h => mq h.symm); have t0 := hT8.cells 0 _ rfl; have t1 := hT8.cells 1 _ rfl; have t2 := hT8.cells 2 _ rfl; have u0 := hQ8.cells 0 _ rfl; have u1 := hQ8.cells 1 _ rfl; have z0 := hX8.cells 0 _ rfl; have z1 := hX8.cells 1 _ rfl; have s0 := hS8.cells 0 _ rfl; have s1 := hS8.cells 1 _ rfl; have s2 := hS8.cells 2 _ rfl; have zf := hX8.frozen; have sf := hS8.frozen; have zl := hX8.lt; have sl := hS8.lt; have tl := hT8.lt; have ul := hQ8.lt; simp only [List.getElem_toArray, List.getElem_cons_zero, List.getElem_cons_succ] at t0 t1 t2 u0 u1 z0 z1 s0 s1 s2; have HK8 := Lib.hid (And.intro hX8 (And.intro hS8 (And.intro hown1 hg1))); clear hX8 hS8 hT8 hQ8 KX KS KT KQ hown1 hg1 hat1))
              obtain ⟨KX8, KS8, hown1, hg1⟩ := HK8.out
              have HB8 : Hid (Below w.heap.size w w8) := Lib.hid (Below.grown (Below.alloc HBx.out HBx.out.size _) hg1 (by have := HBx.out.size; simp; omega) (by intro k h; exact (HM.out.lt k h).1))
              have HR8 : Hid (w8.ownsRow wo.heap.size 9 1 (.slice A3 5 c3) 5 (flat encS a.sectors) ∧ w8.ownsRow wo.heap.size 52 2 (.slice A3' 0 c3') 0 (flat encP a.cache)) := by
                refine ⟨(HR.out.1.alloc _).kept hg1 ?_, (HR.out.2.alloc _).kept hg1 ?_⟩
                · exact keep_ne (fun k h => (HR.out.1.lt k h).1) (fun k h => HMW.out k h)
                · exact keep_ne (fun k h => (HR.out.2.lt k h).1) (fun k h => HMW.out k h)
              obtain ⟨A8, c8, rfl, _, _, _⟩ := own_form hown1
              have HO8 := Lib.hid (by simpa using hown1 : w8.ownsRow w.heap.size 9 1 (.slice A8 (j + 1) c8) (j + 1) (flat encS all ++ [.string B]))
              have HN8 := Lib.hid (And.intro (own_blk_ne HR8.out.1 KX8 (by decide)) (And.intro (own_blk_ne HR8.out.1 KS8 (by decide)) (And.intro (own_blk_ne HR8.out.2 KX8 (by decide)) (And.intro (own_blk_ne HR8.out.2 KS8 (by decide)) (And.intro (own_blk_ne HO8.out KX8 (by decide)) (own_blk_ne HO8.out KS8 (by decide)))))))
              have HZ := Lib.hid (And.intro hzr (And.intro KX8 KS8))
              clear KX8 KS8 hown1 hg1 HK8
              go_roundw
              case rel =>
                (repeat apply Exists.intro)
                refine ⟨⟨i + 1, r2, nx + 1, a, A3, c3, A3', c3', all ++ [B], A8, j + 1, c8, by omega, by go_num, rfl, by omega, by omega, by omega, HGA, ?_, Lib.hid (by simp [HLEN.out]), ?_, ?_, ?_, ?_, ?_⟩, rfl⟩
                · intro x hx
                  rcases List.mem_append.1 hx with h | h
                  · obtain ⟨k, hk, e⟩ := HALL.out x h
                    exact ⟨k, by omega, e⟩
                  · exact ⟨nx, by omega, by rw [List.mem_singleton.1 h, HBE.out]⟩
                · have := HB8.out
                  go_grown
                · have := (((Blk.far_at (Blk.far_at (Blk.far_at HZ.out.2.1 HNE.out.1 0 (.int .i64 1)) HNE.out.1 1 (.int .i64 ((nx + 1 : Nat) : Int))) HNE.out.1 2 (.int .i64 (L2 : Int))).set_ 0 (.slice A3 5 c3)).set_ 1 (.slice A3' 0 c3'))
                  exact Lib.hid (by simpa using this)
                · rw [hL2]
                  have := (Blk.far_at (Blk.far_at (((HZ.out.2.2.set_ 0 (.int .i64 1)).set_ 1 (.int .i64 ((nx + 1 : Nat) : Int))).set_ 2 (.int .i64 (L2 : Int))) HNE.out.2 0 (.slice A3 5 c3)) HNE.out.2 1 (.slice A3' 0 c3'))
                  exact Lib.hid (by simpa using this)
                · exact ⟨own_far (own_far (own_far (own_far (own_far (own_base HR8.out.1 HZ.out.1) HN8.out.2.1 _ _) HN8.out.2.1 _ _) HN8.out.2.1 _ _) HN8.out.1 _ _) HN8.out.1 _ _, own_far (own_far (own_far (own_far (own_far (own_base HR8.out.2 HZ.out.1) HN8.out.2.2.2.1 _ _) HN8.out.2.2.2.1 _ _) HN8.out.2.2.2.1 _ _) HN8.out.2.2.1 _ _) HN8.out.2.2.1 _ _⟩
                · rw [flat_snoc]
                  exact Lib.hid (own_far (own_far (own_far (own_far (own_far HO8.out HN8.out.2.2.2.2.2 _ _) HN8.out.2.2.2.2.2 _ _) HN8.out.2.2.2.2.2 _ _) HN8.out.2.2.2.2.1 _ _) HN8.out.2.2.2.2.1 _ _)
              case measure => simp [intOf]; omega
        · obtain ⟨la, hla⟩ : ∃ x, a.sectors.length = x := ⟨_, rfl⟩
          obtain ⟨ka, hka⟩ : ∃ x, a.cache.length = x := ⟨_, rfl⟩
          have HNO := Lib.hid (empty_ne HALL.out)
          obtain ⟨B, hB9⟩ : ∃ x : ByteArray, x = ⟨#[]⟩ := ⟨_, rfl⟩
          have hbe : (B.toList == (⟨#[]⟩ : ByteArray).toList) = true := by rw [hB9]; simp
          rw [← hB9] at HNO hnx
          have hbe2 : B.toList = [] := by rw [hB9, ByteArray.toList_eq]
          have hbe3 : (B.toList == []) = true := by rw [hbe2]; rfl
          have HBE := Lib.hid (And.intro hbe (And.intro hbe2 hbe3))
          clear hB9 hbe hbe2 hbe3
          rw [hL0] at hS hnr hnx
          rw [hla, hka] at hlens
          clear hgr
          have HP := rows_pre5 (fgood_len HQ.out) HR.out.1 HR.out.2
          have HNX := Lib.hid hnx
          clear hnx
          have qX_0b := hX.cells 0 _ rfl
          have qX_1b := hX.cells 1 _ rfl
          have qlXb := hX.lt
          have qS_0b := hS.cells 0 _ rfl
          have qS_1b := hS.cells 1 _ rfl
          have qS_2b := hS.cells 2 _ rfl
          have qlSb := hS.lt
          simp only [List.getElem_toArray, List.getElem_cons_zero, List.getElem_cons_succ] at qX_0b qX_1b qS_0b qS_1b qS_2b
          go_wp2_with fail
          refine (next_any q ⟨1, (nx : Int), (L0 : Int)⟩ dd A1 A1' 5 0 c1 c1' _ (HP.step (by go_grown)) (by omega) (by omega) (hGr.step (by go_grown))).mono ?_
          rintro e wb1 ⟨v, rfl, hO3, hb3⟩
          clear qlXb qlSb qX_0b qX_1b qS_0b qS_1b qS_2b
          have hsb1 : Below wo.heap.size wo wb1 := Below.trans (by go_grown) (hb3.mono (by first | (simp; done) | (simp; omega)))
          have X_b1 := hX.below hsb1 hX.lt
          have S_b1 := hS.below hsb1 hS.lt
          have HG_b1 := hGr.on hsb1
          have HM_b1 := Lib.hid (own_below HM.out hsb1 (Nat.le_refl _))
          have O_b1 := (Blk.new_at (g := wo.heap.size) (by simp) _ _).below hb3 (by first | (simp; done) | (simp; omega))
          have hBb_1 := hBr.trans (hsb1.mono hBr.size)
          rw [HNX.out] at hO3 ⊢
          unfold srcV
          dsimp only at hO3 ⊢
          obtain ⟨A3, c3, A3', c3', rfl, hc1, hc2⟩ := hO3
          rw [hla] at hc1 ⊢
          rw [hka] at hc2 ⊢
          have HC := Lib.hid (And.intro (own_base (base' := wo.heap.size) hc1 (by simp)) (own_base (base' := wo.heap.size) hc2 (by simp)))
          clear hc1 hc2 HP HR x0 x1 x2
          have hzb_1 := hsb1.size
          clear hb3 hX hS hGr HM hBr hsb1
          go_wp2_with fail
          have HX1 := Lib.hid ((X_b1.alloc (.cells #[.int .i64 1, .int .i64 (nx : Int), .int .i64 (L0 : Int)] 28)).alloc (.cells #[.slice A3 la c3, .slice A3' ka c3'] 25))
          have HS1 := Lib.hid ((S_b1.alloc (.cells #[.int .i64 1, .int .i64 (nx : Int), .int .i64 (L0 : Int)] 28)).alloc (.cells #[.slice A3 la c3, .slice A3' ka c3'] 25))
          have HO1 := Lib.hid ((O_b1.alloc (.cells #[.int .i64 1, .int .i64 (nx : Int), .int .i64 (L0 : Int)] 28)).alloc (.cells #[.slice A3 la c3, .slice A3' ka c3'] 25))
          have HR1 := Lib.hid (And.intro ((HC.out.1.alloc (.cells #[.int .i64 1, .int .i64 (nx : Int), .int .i64 (L0 : Int)] 28)).alloc (.cells #[.slice A3 la c3, .slice A3' ka c3'] 25)) ((HC.out.2.alloc (.cells #[.int .i64 1, .int .i64 (nx : Int), .int .i64 (L0 : Int)] 28)).alloc (.cells #[.slice A3 la c3, .slice A3' ka c3'] 25)))
          have HM1 := Lib.hid ((HM_b1.out.alloc (.cells #[.int .i64 1, .int .i64 (nx : Int), .int .i64 (L0 : Int)] 28)).alloc (.cells #[.slice A3 la c3, .slice A3' ka c3'] 25))
          have HT1 := Lib.hid ((Blk.new_at (w := wb1) rfl 28 #[.int .i64 1, .int .i64 (nx : Int), .int .i64 (L0 : Int)]).alloc (.cells #[.slice A3 la c3, .slice A3' ka c3'] 25))
          have HQ1 := Lib.hid (Blk.new_at (w := wb1.alloc (.cells #[.int .i64 1, .int .i64 (nx : Int), .int .i64 (L0 : Int)] 28)) (g := wb1.heap.size + 1) (by simp) 25 #[.slice A3 la c3, .slice A3' ka c3'])
          have HB1 : Hid (Below w.heap.size w ((wb1.alloc (.cells #[.int .i64 1, .int .i64 (nx : Int), .int .i64 (L0 : Int)] 28)).alloc (.cells #[.slice A3 la c3, .slice A3' ka c3'] 25))) := by have := hBb_1; exact Lib.hid (by go_grown)
          have HG1 := HG0.on HB1.out
          have hzW := hBb_1.size
          clear X_b1 S_b1 O_b1 HC HM_b1 hBb_1 HG_b1
          go_loopw [14] (fun iv wx => ∃ j : Nat, j ≤ m7 ∧ iv = .int .i64 j ∧ Below w.heap.size w wx ∧ Hid (Blk wx w1.heap.size 25 #[.slice A1 5 c1, .slice A1' 0 c1']) ∧ Hid (Blk wx w2.heap.size 28 #[.int .i64 1, .int .i64 nx, .int .i64 (L0 : Int)]) ∧ Hid (Blk wx wo.heap.size 48 #[.int .i64 1, .int .i64 dd, .slice AF nF cF]) ∧
            Hid (Blk wx wb1.heap.size 28 #[.int .i64 1, .int .i64 (nx : Int), .int .i64 (L0 : Int)]) ∧ Hid (Blk wx (wb1.heap.size + 1) 25 #[.slice A3 la c3, .slice A3' ka c3']) ∧
            Hid (wx.ownsRow wo.heap.size 9 1 (.slice A3 la c3) la (flat encS a.sectors) ∧ wx.ownsRow wo.heap.size 52 2 (.slice A3' ka c3') ka (flat encP a.cache)) ∧ Hid (wx.ownsRow w.heap.size 9 1 (.slice A7 m7 c7) m7 (flat encS all))) (fun iv _ => m7 - (intOf iv).toNat)
          case atStart => exact ⟨0, Nat.zero_le _, rfl, HB1.out, HX1, HS1, HO1, HT1, HQ1, HR1, HM1⟩
          case round =>
            clear HX1 HS1 HO1 HT1 HQ1 HR1 HM1 HG1 HB1
            obtain ⟨j, hj, rfl, hBx, HX, HS, HO, HT, HQ2, HR, HM⟩ := hrel
            obtain ⟨wx, rfl⟩ : ∃ W : World, W = wr := ⟨wr, rfl⟩
            have hGx := HG0.on hBx
            by_cases hjl : j < m7
            · have hSl := SlR.of_own encS_len HM.out HLEN.out
              rcases hSl.2 with h0 | ⟨b7, o7, rfl, hb7, hC7⟩
              · omega
              obtain ⟨y, hy⟩ : ∃ y, all[j]? = some y := ⟨all[j]'(by rw [HLEN.out]; omega), List.getElem?_eq_getElem _⟩
              have y0 := hC7.str hy
              have hyn := HNO.out y (List.mem_of_getElem? hy)
              clear hSl hC7 hy
              have HBx := Lib.hid hBx
              clear hBx
              go_wp2_with fail
              go_roundw
              case rel => exact ⟨j + 1, by omega, by go_num, HBx.out, HX, HS, HO, HT, HQ2, HR, HM⟩
              case measure => simp [intOf]; omega
            · obtain rfl : j = m7 := by omega
              have t0 := HT.out.cells 0 _ rfl
              have t1 := HT.out.cells 1 _ rfl
              have t2 := HT.out.cells 2 _ rfl
              have u0 := HQ2.out.cells 0 _ rfl
              have u1 := HQ2.out.cells 1 _ rfl
              have z0 := HX.out.cells 0 _ rfl
              have z1 := HX.out.cells 1 _ rfl
              have s0 := HS.out.cells 0 _ rfl
              have s1 := HS.out.cells 1 _ rfl
              have s2 := HS.out.cells 2 _ rfl
              have zf := HX.out.frozen
              have sf := HS.out.frozen
              have tl := HT.out.lt
              have ul := HQ2.out.lt
              have zl := HX.out.lt
              have sl := HS.out.lt
              have hne1 := Blk.ne_ HX.out HS.out (by decide)
              have HNE := Lib.hid (And.intro hne1 hne1.symm)
              have hne2 := hne1.symm
              simp only [List.getElem_toArray, List.getElem_cons_zero, List.getElem_cons_succ] at t0 t1 t2 u0 u1 z0 z1 s0 s1 s2
              obtain ⟨hbe, hbe2, hbe3⟩ := HBE.out
              have HRX := Lib.hid (And.intro (own_blk_ne HR.out.1 HX.out (by decide)) (And.intro (own_blk_ne HR.out.1 HS.out (by decide)) (And.intro (own_blk_ne HR.out.2 HX.out (by decide)) (own_blk_ne HR.out.2 HS.out (by decide)))))
              have HMX := Lib.hid (And.intro (own_blk_ne HM.out HX.out (by decide)) (own_blk_ne HM.out HS.out (by decide)))
              have hneO := Blk.ne_ HO.out HX.out (by decide)
              have hneP := Blk.ne_ HO.out HS.out (by decide)
              have HNO2 := Lib.hid (And.intro hneO hneP)
              have HBx := Lib.hid hBx
              have hzx := hBx.size
              clear hBx hneO hneP
              go_upto_region 26 with (fail)
              go_cut [] from 37 to 108 (fun wy => Below w.heap.size w wy ∧ Hid (Blk wy w1.heap.size 25 #[.slice A3 la c3, .slice A3' ka c3']) ∧ Hid (Blk wy w2.heap.size 28 #[.int .i64 1, .int .i64 nx, .int .i64 (L0 : Int)]) ∧ Hid (Blk wy wo.heap.size 48 #[.int .i64 1, .int .i64 dd, .slice AF nF cF]) ∧
                Hid (wy.ownsRow w.heap.size 9 1 (.slice A3 la c3) la (flat encS a.sectors) ∧ wy.ownsRow w.heap.size 52 2 (.slice A3' ka c3') ka (flat encP a.cache)) ∧ Hid (wy.ownsRow w.heap.size 9 1 (.slice A7 j c7) j (flat encS all)))
              case first =>
                go_wp2_with fail
                go_meet
                refine ⟨?_, ?_, ?_, ?_, ?_, ?_⟩
                · have := HBx.out
                  go_grown
                · have := (((Blk.far_at (Blk.far_at (Blk.far_at HX.out HNE.out.1 0 (.int .i64 1)) HNE.out.1 1 (.int .i64 (nx : Int))) HNE.out.1 2 (.int .i64 (L0 : Int))).set_ 0 (.slice A3 la c3)).set_ 1 (.slice A3' ka c3'))
                  exact Lib.hid (by simpa using this)
                · have := (Blk.far_at (Blk.far_at (((HS.out.set_ 0 (.int .i64 1)).set_ 1 (.int .i64 (nx : Int))).set_ 2 (.int .i64 (L0 : Int))) HNE.out.2 0 (.slice A3 la c3)) HNE.out.2 1 (.slice A3' ka c3'))
                  exact Lib.hid (by simpa using this)
                · exact Lib.hid (Blk.far_at (Blk.far_at (Blk.far_at (Blk.far_at (Blk.far_at HO.out HNO2.out.2 0 (.int .i64 1)) HNO2.out.2 1 (.int .i64 (nx : Int))) HNO2.out.2 2 (.int .i64 (L0 : Int))) HNO2.out.1 0 (.slice A3 la c3)) HNO2.out.1 1 (.slice A3' ka c3'))
                · exact ⟨own_far (own_far (own_far (own_far (own_far (own_base HR.out.1 hzr) HRX.out.2.1 _ _) HRX.out.2.1 _ _) HRX.out.2.1 _ _) HRX.out.1 _ _) HRX.out.1 _ _, own_far (own_far (own_far (own_far (own_far (own_base HR.out.2 hzr) HRX.out.2.2.2 _ _) HRX.out.2.2.2 _ _) HRX.out.2.2.2 _ _) HRX.out.2.2.1 _ _) HRX.out.2.2.1 _ _⟩
                · exact Lib.hid (own_far (own_far (own_far (own_far (own_far HM.out HMX.out.2 _ _) HMX.out.2 _ _) HMX.out.2 _ _) HMX.out.1 _ _) HMX.out.1 _ _)
              case rest =>
                clear t0 t1 t2 u0 u1 z0 z1 s0 s1 s2 zf sf tl ul zl sl HT HQ2 HX HS HO HR HM HBx HRX HMX HNO2 HNE hne1 hne2 hGx hzx
                obtain ⟨hBy, HX, HS, HO, HR, HM⟩ := hcut
                obtain ⟨wy, rfl⟩ : ∃ W : World, W = wc := ⟨wc, rfl⟩
                have hXy := HX.out
                have hSy := HS.out
                have hOy := HO.out
                have hGy := HG0.on hBy
                have hzy := hBy.size
                clear HX HS HO
                obtain ⟨b, r2, hcr1, hgb, hnr2, hr2⟩ := hcrash F
                have HCR := Lib.hid hcr1
                have HGB := Lib.hid hgb
                obtain ⟨L6, hL6⟩ : ∃ x, 16 * r2 = x := ⟨_, rfl⟩
                have HOP := Lib.hid (fgood_open hgb (by omega))
                rw [hL6] at HOP hnr2
                clear hcr1 hgb
                have tlX := hXy.lt
                have tlS := hSy.lt
                have qX_0y := hXy.cells 0 _ rfl
                have qX_1y := hXy.cells 1 _ rfl
                have qlXy := hXy.lt
                have qO_0y := hOy.cells 0 _ rfl
                have qO_1y := hOy.cells 1 _ rfl
                have qO_2y := hOy.cells 2 _ rfl
                have qlOy := hOy.lt
                simp only [List.getElem_toArray, List.getElem_cons_zero, List.getElem_cons_succ] at qX_0y qX_1y qO_0y qO_1y qO_2y
                go_wp2_with fail
                refine (crash_any a F AF nF cF A3 A3' la ka c3 c3' _ ((rows_pre5 ⟨hla, hka⟩ HR.out.1 HR.out.2).step (by go_grown)) ((HOK.out _ (by have := hBy; go_grown)).1) (by omega) (fun x hx => ((HOK.out _ (by have := hBy; go_grown)).2.2 x hx).2)).mono ?_
                rintro e wy1 ⟨v, rfl, hOC, hbC⟩
                clear qlXy qlOy qX_0y qX_1y qO_0y qO_1y qO_2y
                have hsy1 : Below wy.heap.size wy wy1 := Below.trans (by go_grown) (hbC.mono (by first | (simp; done) | (simp; omega)))
                have X_y1 := hXy.below hsy1 hXy.lt
                have S_y1 := hSy.below hsy1 hSy.lt
                have O_y1 := hOy.below hsy1 hOy.lt
                have HG_y1 := hGy.on hsy1
                have HM_y1 := Lib.hid (own_below HM.out hsy1 (Nat.le_refl _))
                have hBy_1 := hBy.trans (hsy1.mono hBy.size)
                rw [HCR.out] at hOC ⊢
                dsimp only at hOC ⊢
                obtain ⟨A6, c6, A6', c6', rfl, hr1, hr2⟩ := hOC
                rw [(fgood_len HGB.out).1] at hr1 ⊢
                rw [(fgood_len HGB.out).2] at hr2 ⊢
                have HC6 := Lib.hid (And.intro (own_base (base' := w.heap.size) hr1 (by first | exact hBy.size | (have := hBy.size; simp; omega))) (own_base (base' := w.heap.size) hr2 (by first | exact hBy.size | (have := hBy.size; simp; omega))))
                clear hr1 hr2
                have hzy_1 := hsy1.size
                clear hbC hXy hSy hOy hGy HR HM hBy hsy1
                go_wp2_with fail
                refine (nopen_any b 1 A6 A6' 5 0 c6 c6' _ ((rows_pre5 (fgood_len HGB.out) HC6.out.1 HC6.out.2).step (by go_grown))).mono ?_
                rintro e wy2 ⟨rfl, hbO⟩
                have hsy2 : Below wy1.heap.size wy1 wy2 := Below.trans (by go_grown) (hbO.mono (by first | (simp; done) | (simp; omega)))
                have X_y2 := X_y1.below hsy2 X_y1.lt
                have S_y2 := S_y1.below hsy2 S_y1.lt
                have O_y2 := O_y1.below hsy2 O_y1.lt
                have HG_y2 := HG_y1.on hsy2
                have HM_y2 := Lib.hid (own_below HM_y1.out hsy2 (Nat.le_refl _))
                have HR6_y2 := Lib.hid (And.intro (own_below HC6.out.1 hsy2 (Nat.le_refl _)) (own_below HC6.out.2 hsy2 (Nat.le_refl _)))
                have Y_y2 := (Blk.new_at (g := wy1.heap.size) (by simp) _ _).below hbO (by first | (simp; done) | (simp; omega))
                have hBy_2 := hBy_1.trans (hsy2.mono hBy_1.size)
                rw [HOP.out]
                unfold srcV
                dsimp only
                have hzy_2 := hsy2.size
                clear hbO X_y1 S_y1 O_y1 HG_y1 HM_y1 HC6 hBy_1 hsy2
                have qX_0y := X_y2.cells 0 _ rfl
                have qX_1y := X_y2.cells 1 _ rfl
                have qlXy := X_y2.lt
                have qS_0y := S_y2.cells 0 _ rfl
                have qS_1y := S_y2.cells 1 _ rfl
                have qS_2y := S_y2.cells 2 _ rfl
                have qlSy := S_y2.lt
                have qY_0y := Y_y2.cells 0 _ rfl
                have qY_1y := Y_y2.cells 1 _ rfl
                have qlYy := Y_y2.lt
                simp only [List.getElem_toArray, List.getElem_cons_zero, List.getElem_cons_succ] at qX_0y qX_1y qS_0y qS_1y qS_2y qY_0y qY_1y
                have qfXy := X_y2.frozen
                have qfSy := S_y2.frozen
                have hne1 := Blk.ne_ X_y2 S_y2 (by decide)
                have HNE := Lib.hid (And.intro hne1 hne1.symm)
                have HXX := Lib.hid X_y2
                have HSS := Lib.hid S_y2
                have HR7 := Lib.hid (And.intro (own_blk_ne HR6_y2.out.1 X_y2 (by decide)) (And.intro (own_blk_ne HR6_y2.out.1 S_y2 (by decide)) (And.intro (own_blk_ne HR6_y2.out.2 X_y2 (by decide)) (own_blk_ne HR6_y2.out.2 S_y2 (by decide)))))
                have HM7 := Lib.hid (And.intro (own_blk_ne HM_y2.out X_y2 (by decide)) (own_blk_ne HM_y2.out S_y2 (by decide)))
                have HBB := Lib.hid hBy_2
                have hne2 := hne1.symm
                clear X_y2 S_y2 Y_y2 hBy_2 O_y2 HG_y2
                go_wp2_with fail
                go_roundw
                case rel =>
                  refine ⟨i + 1, r2, L6, b, A6, c6, A6', c6', all, A7, j, c7, by omega, by go_num, rfl, by omega, by omega, by omega, HGB, Lib.hid (fun x hx => by obtain ⟨j, hj, e⟩ := HALL.out x hx; exact ⟨j, by omega, e⟩), HLEN, ?_, ?_, ?_, ?_, ?_⟩
                  · have := HBB.out
                    go_grown
                  · have := Blk.alloc ((Blk.far_at (Blk.far_at (Blk.far_at ((HXX.out.set_ 0 (.slice A6 5 c6)).set_ 1 (.slice A6' 0 c6')) HNE.out.1 0 (.int .i64 1)) HNE.out.1 1 (.int .i64 (L6 : Int))) HNE.out.1 2 (.int .i64 (L6 : Int)))) (.cells #[.int .i64 1, .int .i64 (L6 : Int), .int .i64 (L6 : Int)] 28)
                    exact Lib.hid (by simpa using this)
                  · rw [hL6]
                    have := Blk.alloc (((((Blk.far_at (Blk.far_at HSS.out HNE.out.2 0 (.slice A6 5 c6)) HNE.out.2 1 (.slice A6' 0 c6')).set_ 0 (.int .i64 1)).set_ 1 (.int .i64 (L6 : Int))).set_ 2 (.int .i64 (L6 : Int)))) (.cells #[.int .i64 1, .int .i64 (L6 : Int), .int .i64 (L6 : Int)] 28)
                    exact Lib.hid (by simpa using this)
                  · exact ⟨World.ownsRow.alloc (own_far (own_far (own_far (own_far (own_far HR6_y2.out.1 HR7.out.1 _ _) HR7.out.1 _ _) HR7.out.2.1 _ _) HR7.out.2.1 _ _) HR7.out.2.1 _ _) _, World.ownsRow.alloc (own_far (own_far (own_far (own_far (own_far HR6_y2.out.2 HR7.out.2.2.1 _ _) HR7.out.2.2.1 _ _) HR7.out.2.2.2 _ _) HR7.out.2.2.2 _ _) HR7.out.2.2.2 _ _) _⟩
                  · exact Lib.hid (World.ownsRow.alloc (own_far (own_far (own_far (own_far (own_far HM_y2.out HM7.out.1 _ _) HM7.out.1 _ _) HM7.out.2 _ _) HM7.out.2 _ _) HM7.out.2 _ _) _)
                case measure => simp [intOf]; omega
      · have hcr1 := fresh_crash hgr F
        obtain ⟨b, hb9⟩ : ∃ x, q = x := ⟨_, rfl⟩
        have HCR : Hid (crashF q F = (b, 0)) := Lib.hid (by rw [← hb9]; exact hcr1)
        have HGB : Hid (FGood b r) := Lib.hid (by rw [← hb9]; exact hgr)
        obtain ⟨L6, r2, hL6, hr29⟩ : ∃ x r2, 16 * r2 = x ∧ r2 = r := ⟨_, r, rfl, rfl⟩
        rw [← hr29] at HGB
        have HOP := Lib.hid (fgood_open HGB.out (by omega))
        rw [hL6] at HOP
        have hnr2 : nx ≤ L6 := by omega
        rw [hL0] at hS
        clear hcr1 hgr hb9
        have tlX := hX.lt
        have tlS := hS.lt
        have qX_0k := hX.cells 0 _ rfl
        have qX_1k := hX.cells 1 _ rfl
        have qlXk := hX.lt
        simp only [List.getElem_toArray, List.getElem_cons_zero, List.getElem_cons_succ] at qX_0k qX_1k
        go_wp2_with fail
        refine (crash_any q F AF nF cF A1 A1' 5 0 c1 c1' _ ((rows_pre5 (fgood_len HQ.out) HR.out.1 HR.out.2).step (by go_grown)) ((HOK.out _ (by have := hBr; go_grown)).1) (by omega) (fun x hx => ((HOK.out _ (by have := hBr; go_grown)).2.2 x hx).2)).mono ?_
        rintro e wk1 ⟨v, rfl, hOC, hbC⟩
        clear qlXk qX_0k qX_1k
        have hsk1 : Below wo.heap.size wo wk1 := Below.trans (by go_grown) (hbC.mono (by first | (simp; done) | (simp; omega)))
        have X_k1 := hX.below hsk1 hX.lt
        have S_k1 := hS.below hsk1 hS.lt
        have HG_k1 := hGr.on hsk1
        have HM_k1 := Lib.hid (own_below HM.out hsk1 (Nat.le_refl _))
        have O_k1 := (Blk.new_at (g := wo.heap.size) (by simp) _ _).below hbC (by first | (simp; done) | (simp; omega))
        have hBk_1 := hBr.trans (hsk1.mono hBr.size)
        rw [HCR.out] at hOC ⊢
        dsimp only at hOC ⊢
        obtain ⟨A6, c6, A6', c6', rfl, hr1, hr2⟩ := hOC
        rw [(fgood_len HGB.out).1] at hr1 ⊢
        rw [(fgood_len HGB.out).2] at hr2 ⊢
        have HC6 := Lib.hid (And.intro (own_base (base' := w.heap.size) hr1 (by first | exact hBr.size | (have := hBr.size; simp; omega))) (own_base (base' := w.heap.size) hr2 (by first | exact hBr.size | (have := hBr.size; simp; omega))))
        clear hr1 hr2
        have hzk_1 := hsk1.size
        clear hbC hX hS hGr HR HM hBr hsk1
        go_wp2_with fail
        refine (nopen_any b 1 A6 A6' 5 0 c6 c6' _ ((rows_pre5 (fgood_len HGB.out) HC6.out.1 HC6.out.2).step (by go_grown))).mono ?_
        rintro e wk2 ⟨rfl, hbO⟩
        have hsk2 : Below wk1.heap.size wk1 wk2 := Below.trans (by go_grown) (hbO.mono (by first | (simp; done) | (simp; omega)))
        have X_k2 := X_k1.below hsk2 X_k1.lt
        have S_k2 := S_k1.below hsk2 S_k1.lt
        have HG_k2 := HG_k1.on hsk2
        have HM_k2 := Lib.hid (own_below HM_k1.out hsk2 (Nat.le_refl _))
        have O_k2 := O_k1.below hsk2 O_k1.lt
        have HR6_k2 := Lib.hid (And.intro (own_below HC6.out.1 hsk2 (Nat.le_refl _)) (own_below HC6.out.2 hsk2 (Nat.le_refl _)))
        have Y_k2 := (Blk.new_at (g := wk1.heap.size) (by simp) _ _).below hbO (by first | (simp; done) | (simp; omega))
        have hBk_2 := hBk_1.trans (hsk2.mono hBk_1.size)
        rw [HOP.out]
        unfold srcV
        dsimp only
        have hzk_2 := hsk2.size
        clear hbO X_k1 S_k1 HG_k1 HM_k1 O_k1 HC6 hBk_1 hsk2
        have qX_0k := X_k2.cells 0 _ rfl
        have qX_1k := X_k2.cells 1 _ rfl
        have qlXk := X_k2.lt
        have qS_0k := S_k2.cells 0 _ rfl
        have qS_1k := S_k2.cells 1 _ rfl
        have qS_2k := S_k2.cells 2 _ rfl
        have qlSk := S_k2.lt
        have qY_0k := Y_k2.cells 0 _ rfl
        have qY_1k := Y_k2.cells 1 _ rfl
        have qlYk := Y_k2.lt
        simp only [List.getElem_toArray, List.getElem_cons_zero, List.getElem_cons_succ] at qX_0k qX_1k qS_0k qS_1k qS_2k qY_0k qY_1k
        have qfXk := X_k2.frozen
        have qfSk := S_k2.frozen
        have hne1 := Blk.ne_ X_k2 S_k2 (by decide)
        have HNE := Lib.hid (And.intro hne1 hne1.symm)
        have HXX := Lib.hid X_k2
        have HSS := Lib.hid S_k2
        have HR7 := Lib.hid (And.intro (own_blk_ne HR6_k2.out.1 X_k2 (by decide)) (And.intro (own_blk_ne HR6_k2.out.1 S_k2 (by decide)) (And.intro (own_blk_ne HR6_k2.out.2 X_k2 (by decide)) (own_blk_ne HR6_k2.out.2 S_k2 (by decide)))))
        have HM7 := Lib.hid (And.intro (own_blk_ne HM_k2.out X_k2 (by decide)) (own_blk_ne HM_k2.out S_k2 (by decide)))
        have HBB := Lib.hid hBk_2
        have hne2 := hne1.symm
        clear X_k2 S_k2 Y_k2 hBk_2 O_k2 HG_k2
        go_wp2_with fail
        go_roundw
        case rel =>
          refine ⟨i + 1, r2, L6, b, A6, c6, A6', c6', all, A7, m7, c7, by omega, by go_num, rfl, by omega, by omega, by omega, HGB, Lib.hid (fun x hx => by obtain ⟨j, hj, e⟩ := HALL.out x hx; exact ⟨j, by omega, e⟩), HLEN, ?_, ?_, ?_, ?_, ?_⟩
          · have := HBB.out
            go_grown
          · have := Blk.alloc ((Blk.far_at (Blk.far_at (Blk.far_at ((HXX.out.set_ 0 (.slice A6 5 c6)).set_ 1 (.slice A6' 0 c6')) HNE.out.1 0 (.int .i64 1)) HNE.out.1 1 (.int .i64 (L6 : Int))) HNE.out.1 2 (.int .i64 (L6 : Int)))) (.cells #[.int .i64 1, .int .i64 (L6 : Int), .int .i64 (L6 : Int)] 28)
            exact Lib.hid (by simpa using this)
          · rw [hL6]
            have := Blk.alloc (((((Blk.far_at (Blk.far_at HSS.out HNE.out.2 0 (.slice A6 5 c6)) HNE.out.2 1 (.slice A6' 0 c6')).set_ 0 (.int .i64 1)).set_ 1 (.int .i64 (L6 : Int))).set_ 2 (.int .i64 (L6 : Int)))) (.cells #[.int .i64 1, .int .i64 (L6 : Int), .int .i64 (L6 : Int)] 28)
            exact Lib.hid (by simpa using this)
          · exact ⟨World.ownsRow.alloc (own_far (own_far (own_far (own_far (own_far HR6_k2.out.1 HR7.out.1 _ _) HR7.out.1 _ _) HR7.out.2.1 _ _) HR7.out.2.1 _ _) HR7.out.2.1 _ _) _, World.ownsRow.alloc (own_far (own_far (own_far (own_far (own_far HR6_k2.out.2 HR7.out.2.2.1 _ _) HR7.out.2.2.1 _ _) HR7.out.2.2.2 _ _) HR7.out.2.2.2 _ _) HR7.out.2.2.2 _ _) _⟩
          · exact Lib.hid (World.ownsRow.alloc (own_far (own_far (own_far (own_far (own_far HM_k2.out HM7.out.1 _ _) HM7.out.1 _ _) HM7.out.2 _ _) HM7.out.2 _ _) HM7.out.2 _ _) _)
        case measure => simp [intOf]; omega
    · have hGr := HG0.on hBr
      go_wp2_with fail
      refine (ntold_any _ (hGr.step (by go_grown))).mono ?_
      rintro e w3 ⟨rfl, hb3⟩
      go_wp2_with fail
      go_ret
      exact ⟨rfl, hBr.trans (hb3.mono hBr.size)⟩

theorem fresh_far (L : List NOp) (A : Option Addr) (n c : Nat) (w : World) (hn : 100 < n) :
    Calls Tryd.prog 7 #[.slice A n c] w fun e w' => e = .returned (.bool true) ∧ Below w.heap.size w w' := by
  go_enter Tryd.func7, Tryd.ntmps7
  go_wp2_with fail
  go_ret
  exact ⟨rfl, Below.refl _ _⟩
theorem fresh_any (L : List NOp) (A : Option Addr) (n c : Nat) (w : World) (hS : SlR encO 3 w w.heap.size A n L) (hs : ∀ x ∈ L, NOpOk w x) (hG : Pows w) :
    Calls Tryd.prog 7 #[.slice A n c] w fun e w' => e = .returned (.bool true) ∧ Below w.heap.size w w' := by
  by_cases hn : n ≤ 100
  · exact fresh_walk L A n c w hn (fun W hb => ⟨(hS.below hb).more hb.size, fun x hx => ⟨((hs x hx).1.below hb).more hb.size, (hs x hx).2⟩⟩) hG
  · exact fresh_far L A n c w (by omega)
end Go.Proofs.YtefodifmfjpnlaaDoor
