/- top26: a script's steps; is a script more than is looked at? -/
import Derived.Test.YtpkomloblhbkiaaGreatDoorTopB
set_option linter.unusedVariables false
set_option linter.unusedSimpArgs false
namespace Go.Proofs.YtpkomloblhbkiaaGreatDoor
open Go.RowKit
/-- a step as it came in -/
structure TStp where
  pa : Option Addr
  pn : Nat
  pc : Nat
  P : List Int
  ta : Option Addr
  tn : Nat
  tc : Nat
  T : List ByteArray
  deeds : Int
  fa : Option Addr
  fn : Nat
  fc : Nat
  F : List Int
  oa : Option Addr
  on : Nat
  oc : Nat
  O : List Int
def encT (x : TStp) : List Value := [.slice x.pa x.pn x.pc, .slice x.ta x.tn x.tc, .int .i64 x.deeds, .slice x.fa x.fn x.fc, .slice x.oa x.on x.oc]
def stepC (x : TStp) : Array Value := #[.slice x.pa x.pn x.pc, .slice x.ta x.tn x.tc, .int .i64 x.deeds, .slice x.fa x.fn x.fc, .slice x.oa x.on x.oc]
structure TOk (w : World) (x : TStp) : Prop where
  p : SlR encI 1 w w.heap.size x.pa x.pn x.P
  t : SlR encS 1 w w.heap.size x.ta x.tn x.T
  f : SlR encI 1 w w.heap.size x.fa x.fn x.F
  o : SlR encI 1 w w.heap.size x.oa x.on x.O
  ts : ∀ s ∈ x.T, s.size ≤ 140737488351232
  fs : ∀ i ∈ x.F, i ≤ 9223372036854775807
  os : ∀ i ∈ x.O, i ≤ 9223372036854775807
theorem TOk.grow {w w' : World} {x : TStp} (h : TOk w x) (hb : Below w.heap.size w w') : TOk w' x :=
  ⟨(h.p.below hb).more hb.size, (h.t.below hb).more hb.size, (h.f.below hb).more hb.size, (h.o.below hb).more hb.size, h.ts, h.fs, h.os⟩
def bigStep (x : TStp) : Bool := decide (6 < x.pn) || (decide (6 < x.tn) || (x.T.any longT || (decide (100 < x.fn) || decide (100 < x.on))))
def largeB (L : List TStp) : Bool := decide (8 < L.length) || L.any bigStep
theorem SlC.stp {w : World} {b off : Nat} {L : List TStp} (h : SlC encT 5 w b off L) {k : Nat} {o : TStp} (hl : L[k]? = some o) :
    w.cell? ⟨b, off + k * 5, none⟩ = some (.slice o.pa o.pn o.pc) ∧ w.cell? ⟨b, off + k * 5 + 1, none⟩ = some (.slice o.ta o.tn o.tc) ∧ w.cell? ⟨b, off + k * 5 + 2, none⟩ = some (.int .i64 o.deeds) ∧ w.cell? ⟨b, off + k * 5 + 3, none⟩ = some (.slice o.fa o.fn o.fc) ∧ w.cell? ⟨b, off + k * 5 + 4, none⟩ = some (.slice o.oa o.on o.oc) :=
  ⟨h k o hl 0 _ rfl, h k o hl 1 _ rfl, h k o hl 2 _ rfl, h k o hl 3 _ rfl, h k o hl 4 _ rfl⟩
set_option maxRecDepth 100000 in
set_option maxHeartbeats 2000000 in
theorem tlarge_any (L : List TStp) (A : Option Addr) (n c : Nat) (w : World) (hL : SlR encT 5 w w.heap.size A n L) (hn : n ≤ 140737488351232) (hOk : ∀ x ∈ L, TOk w x) :
    Calls Tryz.prog 6 #[.slice A n c] w fun e w' => e = .returned (.bool (largeB L)) ∧ Below w.heap.size w w' := by
  have hl := hL.1
  have HLL := Lib.hid hl
  by_cases h8 : n ≤ 8
  · have h8i : ¬ (8 : Int) < (n : Int) := by omega
    have h8j : (n : Int) ≤ 8 := by omega
    have h8k : ¬ 8 < n := by omega
    have HOK := Lib.hid hOk
    rcases hL.2 with h0 | ⟨b, off, rfl, hb, hC⟩
    · obtain rfl : L = [] := List.eq_nil_of_length_eq_zero (by omega)
      subst h0
      clear hL hl hOk
      go_enter Tryz.func6, Tryz.ntmps6
      go_wp2_with fail
      go_loopw [3] (fun iv wr => iv = .int .i64 0 ∧ Hid (w = wr)) (fun iv _ => 0)
      case atStart => exact ⟨rfl, Lib.hid rfl⟩
      case round =>
        obtain ⟨rfl, HW⟩ := hrel
        go_wp2_with fail
        go_ret
        refine ⟨rfl, ?_⟩
        rw [HW.out]
        exact Below.refl _ _
    · have HC := Lib.hid hC
      have HBB := Lib.hid hb
      clear hL hl hOk hC hb
      go_enter Tryz.func6, Tryz.ntmps6
      go_wp2_with fail
      go_loopw [3] (fun iv wr => ∃ i : Nat, i ≤ n ∧ iv = .int .i64 i ∧ Hid (∀ (j : Nat) (x : TStp), j < i → L[j]? = some x → bigStep x = false) ∧ Hid (Below w.heap.size w wr)) (fun iv _ => n - (intOf iv).toNat)
      case atStart => exact ⟨0, by omega, rfl, Lib.hid (fun j x hj _ => by omega), Lib.hid (Below.refl _ _)⟩
      case round =>
        obtain ⟨i, hi, rfl, HU, HB⟩ := hrel
        by_cases hlt : i < n
        · obtain ⟨x, hx⟩ : ∃ x, L[i]? = some x := ⟨_, List.getElem?_eq_getElem (by rw [HLL.out]; exact hlt)⟩
          have hmem := List.mem_of_getElem? hx
          have hok := (HOK.out x hmem).grow HB.out
          have i0 : (0 : Int) ≤ (i : Int) := by omega
          have i1 : (i : Int) < (n : Int) := by omega
          obtain ⟨x0, x1, x2, x3, x4⟩ := (show SlC encT 5 wr b off L from HC.out.below HB.out HBB.out).stp hx
          have HX := Lib.hid (And.intro hx hmem)
          obtain ⟨pa, pn, pc, P, ta, tn, tc, T, deeds, fa, fn, fc, F, oa, on, oc, O⟩ := x
          dsimp only at x0 x1 x2 x3 x4
          have HT := Lib.hid (fun W (hW : Below wr.heap.size wr W) (h : tn ≤ 1000) => short_any T ta tn tc W ((hok.grow hW).t) h)
          obtain ⟨bt, hbt⟩ : ∃ b, T.any longT = b := ⟨_, rfl⟩
          rw [hbt] at HT
          have hbig : bigStep ⟨pa, pn, pc, P, ta, tn, tc, T, deeds, fa, fn, fc, F, oa, on, oc, O⟩ = (decide (6 < pn) || (decide (6 < tn) || (bt || (decide (100 < fn) || decide (100 < on))))) := by rw [← hbt]; rfl
          have HBIG := Lib.hid hbig
          have HY : Hid (bigStep ⟨pa, pn, pc, P, ta, tn, tc, T, deeds, fa, fn, fc, F, oa, on, oc, O⟩ = true → largeB L = true) := Lib.hid (fun h => by
            unfold largeB
            rw [List.any_eq_true.2 ⟨_, HX.out.2, h⟩, Bool.or_true])
          clear hx hmem hok hbt hbig
          by_cases h1 : 6 < pn
          · have h1i : (6 : Int) < (pn : Int) := by omega
            have HZ := Lib.hid (HY.out (by rw [HBIG.out]; simp [h1]))
            clear HY HBIG h1
            go_wp2_with fail
            go_ret
            exact ⟨ret_bool HZ.out.symm, HB.out.alloc HB.out.size _⟩
          · have h1i : ¬ (6 : Int) < (pn : Int) := by omega
            by_cases h2 : 6 < tn
            · have h2i : (6 : Int) < (tn : Int) := by omega
              have HZ := Lib.hid (HY.out (by rw [HBIG.out]; simp [h2]))
              clear HY HBIG h2
              go_wp2_with fail
              go_ret
              exact ⟨ret_bool HZ.out.symm, HB.out.alloc HB.out.size _⟩
            · have h2i : ¬ (6 : Int) < (tn : Int) := by omega
              have ht6 : tn ≤ 1000 := by omega
              go_wp2_with fail
              refine (HT.out _ (by go_grown) ht6).mono ?_
              rintro e w2 ⟨rfl, rfl⟩
              cases bt with
              | true =>
                have HZ := Lib.hid (HY.out (by rw [HBIG.out]; simp))
                clear HY HBIG
                go_wp2_with fail
                go_ret
                exact ⟨ret_bool HZ.out.symm, HB.out.alloc HB.out.size _⟩
              | false =>
                by_cases h3 : 100 < fn
                · have h3i : (100 : Int) < (fn : Int) := by omega
                  have HZ := Lib.hid (HY.out (by rw [HBIG.out]; simp [h3]))
                  clear HY HBIG h3
                  go_wp2_with fail
                  go_ret
                  exact ⟨ret_bool HZ.out.symm, HB.out.alloc HB.out.size _⟩
                · have h3i : ¬ (100 : Int) < (fn : Int) := by omega
                  by_cases h4 : 100 < on
                  · have h4i : (100 : Int) < (on : Int) := by omega
                    have HZ := Lib.hid (HY.out (by rw [HBIG.out]; simp [h4]))
                    clear HY HBIG h4
                    go_wp2_with fail
                    go_ret
                    exact ⟨ret_bool HZ.out.symm, HB.out.alloc HB.out.size _⟩
                  · have h4i : ¬ (100 : Int) < (on : Int) := by omega
                    have HZ := Lib.hid (show bigStep ⟨pa, pn, pc, P, ta, tn, tc, T, deeds, fa, fn, fc, F, oa, on, oc, O⟩ = false by rw [HBIG.out]; simp [h1, h2, h3, h4])
                    clear HY HBIG h1 h2 h3 h4
                    go_wp2_with fail
                    go_roundw
                    case rel =>
                      refine ⟨i + 1, by omega, by go_num, Lib.hid (fun j x hj hjx => ?_), ?_⟩
                      · by_cases hji : j = i
                        · subst hji
                          rw [HX.out.1] at hjx
                          injection hjx with hjx
                          rw [← hjx]
                          exact HZ.out
                        · exact HU.out j x (by omega) hjx
                      · exact Lib.hid (HB.out.alloc HB.out.size _)
                    case measure => simp [intOf]; omega
        · obtain rfl : i = n := by omega
          have i1 : ¬ (i : Int) < (i : Int) := by omega
          go_wp2_with fail
          go_ret
          refine ⟨ret_bool ?_, HB.out⟩
          have hany : L.any bigStep = false := by
            rw [List.any_eq_false]
            intro x hx
            obtain ⟨j, hj⟩ := List.getElem?_of_mem hx
            rw [HU.out j x (by have := (List.getElem?_eq_some_iff.1 hj).1; rw [HLL.out] at this; exact this) hj]
            simp
          unfold largeB
          rw [HLL.out, hany]
          simp
          omega
  · have h8i : (8 : Int) < (n : Int) := by omega
    have h8j : ¬ (n : Int) ≤ 8 := by omega
    have hlb : largeB L = true := by unfold largeB; rw [hl]; simp; omega
    have HLB := Lib.hid hlb
    clear hL hl hOk hlb h8
    go_enter Tryz.func6, Tryz.ntmps6
    go_wp2_with fail
    go_loopw [3] (fun iv wr => iv = .int .i64 0 ∧ Hid (w = wr)) (fun iv _ => 0)
    case atStart => exact ⟨rfl, Lib.hid rfl⟩
    case round =>
      obtain ⟨rfl, HW⟩ := hrel
      have i1 : (0 : Int) < (n : Int) := by omega
      go_wp2_with fail
      go_ret
      refine ⟨ret_bool HLB.out.symm, ?_⟩
      rw [HW.out]
      exact Below.refl _ _
end Go.Proofs.YtpkomloblhbkiaaGreatDoor
