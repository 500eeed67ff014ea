/- NetOrder, for every input: what is sent, and delivered from the first place on, comes in order; no condition. -/
import Derived.Test.YtojabnaabgbclaaNetOrdP
import Derived.Test.YtojabnaabgbclaaNetFor
import Derived.Deep.DeepCutAuto
import Derived.Deep.RegionHeld3
import Derived.Deep.QuietTactic
import Derived.BigQuiet
set_option linter.unusedVariables false
namespace Go.Proofs.Ytojabnaabgbclaa
open Go.RowKit
theorem neq_letter (y x : Letter) (w : World) : (binOp .neq 27 (.agg #[.string y.fr, .string y.to, .string y.text]) (.agg #[.string x.fr, .string x.to, .string x.text])).run Try.prog w = .ok (.bool (!leqB y x)) w := by
  go_simp
  unfold leqB
  by_cases h1 : y.fr.toList = x.fr.toList <;> by_cases h2 : y.to.toList = x.to.toList <;> by_cases h3 : y.text.toList = x.text.toList <;> simp [h1, h2, h3]
/-- behind Send, its net in a new box gm -/
def SendDone (wr : World) (M : Net) (gm : Nat) (A1 : Option Addr) (c1 : Nat) (wx : World) : Prop :=
  Blk wx gm 25 #[.slice A1 M.way.length c1, .int .i64 M.sent, .int .i64 M.delivered, .int .i64 M.lost, .int .i64 M.doubled] ∧
  wx.ownsRow wr.heap.size 27 3 (.slice A1 M.way.length c1) M.way.length (flat encL M.way) ∧ Below wr.heap.size wr wx ∧ wr.heap.size ≤ gm
theorem sent_after {wr w5 : World} {M : Net} {A1 : Option Addr} {c1 : Nat} (h1 : w5.ownsRow wr.heap.size 27 3 (.slice A1 M.way.length c1) M.way.length (flat encL M.way)) (hb : Below wr.heap.size wr w5) :
    SendDone wr M w5.heap.size A1 c1 (w5.alloc (.cells #[.slice A1 M.way.length c1, .int .i64 M.sent, .int .i64 M.delivered, .int .i64 M.lost, .int .i64 M.doubled] 25)) :=
  ⟨Blk.new _ _ _, own_below h1 (B := w5.heap.size) (by go_grown) (Nat.le_refl _), by have := hb.size; go_grown, hb.size⟩
theorem below_alloc_drew {wr w5 : World} {o : Obj} (h : Below (wr.alloc o).drew.heap.size (wr.alloc o).drew w5) : Below (wr.heap.size + 1) (wr.alloc o) w5 := by
  have e : (wr.alloc o).drew.heap.size = wr.heap.size + 1 := World.size_alloc wr o
  rw [e] at h
  exact ⟨h.os, h.tape, h.output, h.size, h.block⟩
theorem sent_before {wr w5 : World} {M : Net} {A1 : Option Addr} {c1 : Nat} (h1 : w5.ownsRow (wr.heap.size + 1) 27 3 (.slice A1 M.way.length c1) M.way.length (flat encL M.way))
    (hb : Below (wr.heap.size + 1) (wr.alloc (.cells #[.slice none 0 0, .int .i64 0, .int .i64 0, .int .i64 0, .int .i64 0] 25)) w5) :
    SendDone wr M wr.heap.size A1 c1 (((((w5.setCell ⟨wr.heap.size, 0, none⟩ (.slice A1 M.way.length c1)).setCell ⟨wr.heap.size, 1, none⟩ (.int .i64 M.sent)).setCell ⟨wr.heap.size, 2, none⟩ (.int .i64 M.delivered)).setCell ⟨wr.heap.size, 3, none⟩ (.int .i64 M.lost)).setCell ⟨wr.heap.size, 4, none⟩ (.int .i64 M.doubled)) := by
  refine ⟨?_, ?_, ?_, Nat.le_refl _⟩
  · have := ((((((Blk.new wr 25 #[.slice none 0 0, .int .i64 0, .int .i64 0, .int .i64 0, .int .i64 0]).below hb (by simp)).set_ 0 (.slice A1 M.way.length c1)).set_ 1 (.int .i64 M.sent)).set_ 2 (.int .i64 M.delivered)).set_ 3 (.int .i64 M.lost)).set_ 4 (.int .i64 M.doubled)
    simpa using this
  · refine own_base ?_ (Nat.le_succ _)
    repeat' (first | (with_reducible exact h1) | (with_reducible refine ownsRow_setCell_below ?_ (by simp) _))
  · have hb2 : Below wr.heap.size wr w5 := Below.trans (by go_grown) (hb.mono (by omega))
    exact ((((hb2.setCell (by simp) _).setCell (by simp) _).setCell (by simp) _).setCell (by simp) _).setCell (by simp) _
/-- the loops' state: the net in the first box -/
def OrdSt (w wr : World) (N : Net) (A : Option Addr) (c : Nat) : Prop :=
  Below w.heap.size w wr ∧ Blk wr w.heap.size 25 #[.slice A N.way.length c, .int .i64 N.sent, .int .i64 N.delivered, .int .i64 N.lost, .int .i64 N.doubled] ∧ SlR encL 3 wr wr.heap.size A N.way.length N.way
theorem ordSt_store {w wr wx : World} {N M : Net} {A A1 : Option Addr} {c c1 B : Nat} (h : OrdSt w wr N A c) (hb : Below wr.heap.size wr wx) (ho : wx.ownsRow B 27 3 (.slice A1 M.way.length c1) M.way.length (flat encL M.way)) (hB : wr.heap.size ≤ B) :
    OrdSt w (((((wx.setCell ⟨w.heap.size, 0, none⟩ (.slice A1 M.way.length c1)).setCell ⟨w.heap.size, 1, none⟩ (.int .i64 M.sent)).setCell ⟨w.heap.size, 2, none⟩ (.int .i64 M.delivered)).setCell ⟨w.heap.size, 3, none⟩ (.int .i64 M.lost)).setCell ⟨w.heap.size, 4, none⟩ (.int .i64 M.doubled)) M A1 c1 := by
  obtain ⟨h1, h2, _⟩ := h
  have hlt := h2.lt
  refine ⟨?_, ?_, ?_⟩
  · exact ((((((h1.trans (hb.mono h1.size)).setCell (by simp) _).setCell (by simp) _).setCell (by simp) _).setCell (by simp) _).setCell (by simp) _)
  · have := (((((h2.below hb hlt).set_ 0 (.slice A1 M.way.length c1)).set_ 1 (.int .i64 M.sent)).set_ 2 (.int .i64 M.delivered)).set_ 3 (.int .i64 M.lost)).set_ 4 (.int .i64 M.doubled)
    simpa using this
  · refine SlR.of_own encL_len (base := B) (e := 27) (c := c1) ?_ rfl
    repeat' (first | (with_reducible exact ho) | (with_reducible refine ownsRow_setCell_below ?_ (by simp; omega) _))
theorem OrdSt.below {w wr wx : World} {N : Net} {A : Option Addr} {c : Nat} (h : OrdSt w wr N A c) (hb : Below wr.heap.size wr wx) : OrdSt w wx N A c :=
  ⟨h.1.trans (hb.mono h.1.size), h.2.1.below hb h.2.1.lt, (h.2.2.below hb).more hb.size⟩
theorem OrdSt.drewN {w wr : World} {N : Net} {A : Option Addr} {c : Nat} (h : OrdSt w wr N A c) (d : Nat) : OrdSt w (wr.drewN d) N A c := ⟨below_drewN h.1 d, h.2.1.drewN d, h.2.2⟩
def OrdC (w : World) (L : List Letter) (A : Option Addr) : Prop := ∀ W, Below w.heap.size w W → ∀ k x, L[k]? = some x → ∃ b off, A = some ⟨b, off, none⟩ ∧ b < w.heap.size ∧ W.cell? ⟨b, off + k * 3, none⟩ = some (.string x.fr) ∧ W.cell? ⟨b, off + k * 3 + 1, none⟩ = some (.string x.to) ∧ W.cell? ⟨b, off + k * 3 + 2, none⟩ = some (.string x.text)

set_option maxHeartbeats 4000000 in
set_option maxRecDepth 100000 in
theorem order_main (L : List Letter) (A : Option Addr) (c : Nat) (w : World) (HC : Hid (OrdC w L A)) (HO : Hid (∀ l ∈ L, LetterOk l)) (hn : L.length ≤ 60) :
    Calls Try.prog 6 #[.slice A L.length c] w fun e w' => e = .returned (.bool true) ∧ Below w.heap.size w w' := by
  go_enter Try.func6, Try.ntmps6
  go_wp2_with fail
  go_loopw [4] (fun iv wr => ∃ (k : Nat) (N : Net) (A1 : Option Addr) (c1 : Nat), k ≤ L.length ∧ iv = .int .i64 k ∧ Hid (N = ord1 L k ∧ checkB N = true) ∧ Hid (OrdSt w wr N A1 c1)) (fun iv _ => L.length - (intOf iv).toNat)
  case atStart => exact ⟨0, noNet, none, 0, Nat.zero_le _, rfl, Lib.hid ⟨rfl, noNet_check⟩, Lib.hid ⟨by go_grown, Blk.new _ _ _, SlR.nil_⟩⟩
  case round =>
    obtain ⟨k, N, A1, c1, hk, rfl, HN, HSt⟩ := hrel
    by_cases hlt : k < L.length
    · obtain ⟨x, hxk⟩ : ∃ x, L[k]? = some x := ⟨L[k], List.getElem?_eq_getElem _⟩
      obtain ⟨b, off, rfl, hb, d0, d1, d2⟩ := HC.out wr HSt.out.1 k x hxk
      obtain ⟨hs1, hs2, hs3⟩ := HO.out x (List.mem_of_getElem? hxk)
      simp only [StrOk] at hs1 hs2 hs3
      have HX := Lib.hid hxk
      have n0 := HSt.out.2.1.cells 0 _ rfl
      have n1 := HSt.out.2.1.cells 1 _ rfl
      have n2 := HSt.out.2.1.cells 2 _ rfl
      have n3 := HSt.out.2.1.cells 3 _ rfl
      have n4 := HSt.out.2.1.cells 4 _ rfl
      have hg0 := HSt.out.2.1.lt
      simp only [List.getElem_toArray, List.getElem_cons_zero, List.getElem_cons_succ] at n0 n1 n2 n3 n4
      have i0 : (0 : Int) ≤ (k : Int) := by omega
      have i1 : (k : Int) < (L.length : Int) := by omega
      have hw : IntKind.i64.wrap ((x.fr.size : Int) + (x.to.size : Int)) = (x.fr.size : Int) + (x.to.size : Int) := IntWalk.i64_in _ (by omega)
      clear hxk
      by_cases hbig : 200 < x.fr.size + x.to.size
      · have g0 : decide ((200 : Int) < (x.fr.size : Int) + (x.to.size : Int)) = true := decide_eq_true (by omega)
        go_wp2_with fail
        go_big_quiet (fail)
        go_wp2_with (with_reducible refine end_at ?_)
        refine end_ret (results_tmp rfl _ _ _) rfl ⟨rfl, below_drewN HSt.out.1 _⟩
      · have g0 : decide ((200 : Int) < (x.fr.size : Int) + (x.to.size : Int)) = false := decide_eq_false (by omega)
        by_cases hbt : 4100 < x.text.size
        · have g1 : decide ((4100 : Int) < (x.text.size : Int)) = true := decide_eq_true (by omega)
          go_wp2_with fail
          go_big_quiet (fail)
          go_wp2_with (with_reducible refine end_at ?_)
          refine end_ret (results_tmp rfl _ _ _) rfl ⟨rfl, below_drewN HSt.out.1 _⟩
        · have g1 : decide ((4100 : Int) < (x.text.size : Int)) = false := decide_eq_false (by omega)
          obtain ⟨M, er, hr⟩ : ∃ M er, sendF N x = (M, er) := ⟨_, _, rfl⟩
          have HR := Lib.hid hr
          have HOr := Lib.hid (by have := ord_send (L := L) (k := k) hn HX.out (by rw [← HN.out.1]; exact HN.out.2); rw [← HN.out.1, hr] at this; exact this)
          clear hr
          go_wp2_with fail
          go_big_quiet (fail)
          replace HSt : Hid (OrdSt w (wr.drewN nq) N A1 c1) := Lib.hid ⟨below_drewN HSt.out.1 _, HSt.out.2.1.drewN _, HSt.out.2.2⟩
          replace n0 : (wr.drewN nq).cell? _ = _ := n0
          replace n1 : (wr.drewN nq).cell? _ = _ := n1
          replace n2 : (wr.drewN nq).cell? _ = _ := n2
          replace n3 : (wr.drewN nq).cell? _ = _ := n3
          replace n4 : (wr.drewN nq).cell? _ = _ := n4
          replace d0 : (wr.drewN nq).cell? _ = _ := d0
          replace d1 : (wr.drewN nq).cell? _ = _ := d1
          replace d2 : (wr.drewN nq).cell? _ = _ := d2
          have hg0 : w.heap.size < (wr.drewN nq).heap.size := hg0
          generalize wr.drewN nq = w3 at *
          go_upto_region 9 with (fail)
          go_cut [5, 6] from 15 to 84 (fun s5 s6 wx => ∃ (gm : Nat) (A5 : Option Addr) (c5 : Nat), s5 = .pointer (some ⟨gm, 0, none⟩) ∧ s6 = .int .i64 er ∧ Hid (SendDone w3 M gm A5 c5 wx))
          case first =>
            have hb3 : b < w3.heap.size := by omega
            have HSA : Hid (SlR encL 3 w3.drew w3.drew.heap.size A1 N.way.length N.way) := Lib.hid HSt.out.2.2
            have HSB : Hid (SlR encL 3 (w3.alloc (.cells #[.slice none 0 0, .int .i64 0, .int .i64 0, .int .i64 0, .int .i64 0] 25)).drew (w3.alloc (.cells #[.slice none 0 0, .int .i64 0, .int .i64 0, .int .i64 0, .int .i64 0] 25)).drew.heap.size A1 N.way.length N.way) :=
              Lib.hid ((HSt.out.2.2.below (w' := w3.alloc (.cells #[.slice none 0 0, .int .i64 0, .int .i64 0, .int .i64 0, .int .i64 0] 25)) (by go_grown)).more (by show _ ≤ (w3.alloc _).heap.size; simp))
            go_region_with (first
              | (go_at_call 15; refine (send_any N x A1 N.way.length c1 w3.drew HSA.out).mono ?_; rintro e w5 ⟨v, rfl, hO5, hb5⟩; rw [HR.out] at hO5 ⊢; obtain ⟨A5, c5, rfl, ho1⟩ := hO5; have hS5 : Hid (SendDone w3 M w5.heap.size A5 c5 (w5.alloc (.cells #[.slice A5 M.way.length c5, .int .i64 M.sent, .int .i64 M.delivered, .int .i64 M.lost, .int .i64 M.doubled] 25))) := Lib.hid (sent_after ho1 ⟨hb5.os, hb5.tape, hb5.output, hb5.size, hb5.block⟩))
              | (go_at_call 15; refine (send_any N x A1 N.way.length c1 (w3.alloc (.cells #[.slice none 0 0, .int .i64 0, .int .i64 0, .int .i64 0, .int .i64 0] 25)).drew HSB.out).mono ?_; rintro e w5 ⟨v, rfl, hO5, hb5⟩; rw [HR.out] at hO5 ⊢; obtain ⟨A5, c5, rfl, ho1⟩ := hO5; have hb6 := below_alloc_drew hb5; have hk5 := (Blk.new w3 25 #[.slice none 0 0, .int .i64 0, .int .i64 0, .int .i64 0, .int .i64 0]).below hb6 (by omega); have k50 := hk5.cells 0 _ rfl; have k51 := hk5.cells 1 _ rfl; have k52 := hk5.cells 2 _ rfl; have k53 := hk5.cells 3 _ rfl; have k54 := hk5.cells 4 _ rfl; have k5f := hk5.frozen; have k5l := hk5.lt; simp only [List.getElem_toArray, List.getElem_cons_zero, List.getElem_cons_succ] at k50 k51 k52 k53 k54; have hS5 := Lib.hid (sent_before (own_base ho1 (Nat.le_of_eq (World.size_alloc w3 _).symm)) hb6)))
            all_goals go_wp2_with fail
            all_goals go_meet
            all_goals exact ⟨_, A5, c5, rfl, rfl, hS5⟩
          case rest =>
            obtain ⟨gm, A5, c5, rfl, rfl, HSD⟩ := hcut
            obtain ⟨w5, rfl⟩ : ∃ W : World, W = wc := ⟨wc, rfl⟩
            clear n0 n1 n2 n3 n4 d0 d1 d2 HR
            rcases HOr.out with ⟨er', he, h12⟩ | ⟨he, hcM⟩
            · obtain ⟨rfl, rfl⟩ : M = noNet ∧ er = er' := by injection he with h1 h2; exact ⟨h1, h2⟩
              have hB5 := Lib.hid (HSt.out.1.trans (HSD.out.2.2.1.mono HSt.out.1.size))
              clear HOr he
              rcases h12 with rfl | rfl
              all_goals
                go_wp2_with fail
                refine (nets_any _).mono ?_
                rintro e w6 ⟨rfl, hb6⟩
                go_wp2_with (with_reducible refine end_at ?_)
                refine end_ret (results_tmp rfl _ _ _) rfl ⟨rfl, hB5.out.trans (hb6.mono hB5.out.size)⟩
            · obtain ⟨hM, rfl⟩ : M = ord1 L (k + 1) ∧ er = 0 := by injection he with h1 h2; exact ⟨h1, h2⟩
              have HM : Hid (M = ord1 L (k + 1) ∧ checkB M = true) := Lib.hid ⟨hM, by rw [hM]; exact hcM⟩
              have HF := Lib.hid (show ∃ j, (forV M x.to).length = j + 1 ∧ (forV M x.to)[j]? = some k ∧ j ≤ 60 from by rw [hM]; exact ord_for hn HX.out hcM)
              clear HOr he hM hcM
              have m0 := HSD.out.1.cells 0 _ rfl
              have m1 := HSD.out.1.cells 1 _ rfl
              have m2 := HSD.out.1.cells 2 _ rfl
              have m3 := HSD.out.1.cells 3 _ rfl
              have m4 := HSD.out.1.cells 4 _ rfl
              have hbx := HSt.out.2.1.below HSD.out.2.2.1 hg0
              have n0 := hbx.cells 0 _ rfl
              have n1 := hbx.cells 1 _ rfl
              have n2 := hbx.cells 2 _ rfl
              have n3 := hbx.cells 3 _ rfl
              have n4 := hbx.cells 4 _ rfl
              have gf := hbx.frozen
              simp only [List.getElem_toArray, List.getElem_cons_zero, List.getElem_cons_succ] at m0 m1 m2 m3 m4 n0 n1 n2 n3 n4
              have hS6 := ordSt_store HSt.out HSD.out.2.2.1 HSD.out.2.1 (Nat.le_refl _)
              clear hbx
              go_wp2_with fail
              clear m0 m1 m2 m3 m4 n0 n1 n2 n3 n4 gf HSD HSt HN
              generalize ((((w5.setCell ⟨w.heap.size, 0, none⟩ (.slice A5 M.way.length c5)).setCell ⟨w.heap.size, 1, none⟩ (.int .i64 M.sent)).setCell ⟨w.heap.size, 2, none⟩ (.int .i64 M.delivered)).setCell ⟨w.heap.size, 3, none⟩ (.int .i64 M.lost)).setCell ⟨w.heap.size, 4, none⟩ (.int .i64 M.doubled) = w6 at *
              have HS6 := Lib.hid hS6
              have n0 := hS6.2.1.cells 0 _ rfl
              have n1 := hS6.2.1.cells 1 _ rfl
              have n2 := hS6.2.1.cells 2 _ rfl
              have n3 := hS6.2.1.cells 3 _ rfl
              have n4 := hS6.2.1.cells 4 _ rfl
              simp only [List.getElem_toArray, List.getElem_cons_zero, List.getElem_cons_succ] at n0 n1 n2 n3 n4
              obtain ⟨b', off', eb, _, d0, d1, d2⟩ := HC.out w6 hS6.1 k x HX.out
              cases eb
              have HSA : Hid (SlR encL 3 w6.drew w6.drew.heap.size A5 M.way.length M.way) := Lib.hid hS6.2.2
              clear hS6
              go_region_with (go_at_call 25; refine (for_any M x.to A5 c5 w6.drew HSA.out).mono ?_; rintro e w7 ⟨hb7, A7, c7, rfl, HR7⟩; obtain ⟨j, hj, hjl, hj60⟩ := HF.out; obtain ⟨b7, off7, rfl, hb7l, hC7⟩ := (nu_slr HR7.out).2.resolve_left (by omega); have q7 := nu_cell hC7 hjl; rw [hj]; have HB7 : Hid (Below w6.heap.size w6 w7) := Lib.hid ⟨hb7.os, hb7.tape, hb7.output, hb7.size, hb7.block⟩; clear hb7 HR7 hC7 hb7l hj hjl n0 n1 n2 n3 n4 d0 d1 d2)
              all_goals go_wp2_with fail
              all_goals
                go_roundw
                case rel => exact ⟨k + 1, M, A5, c5, by omega, by go_num, HM, Lib.hid (HS6.out.below HB7.out)⟩
                case measure => simp [intOf]; omega
    · obtain rfl : k = L.length := by omega
      have HN2 : Hid (N = ord2 L 0 ∧ checkB N = true) := Lib.hid ⟨HN.out.1.trans (ord_turn L), HN.out.2⟩
      clear HN
      go_wp2_with fail
      go_loopw [8] (fun iv wr => ∃ (i : Nat) (N : Net) (A1 : Option Addr) (c1 : Nat), i ≤ L.length ∧ iv = .int .i64 i ∧ Hid (N = ord2 L i ∧ checkB N = true) ∧ Hid (OrdSt w wr N A1 c1)) (fun iv _ => L.length - (intOf iv).toNat)
      case atStart => exact ⟨0, N, A1, c1, Nat.zero_le _, rfl, HN2, HSt⟩
      case round =>
        clear HN2 HSt
        obtain ⟨i, N, A1, c1, hi, rfl, HN, HSt⟩ := hrel
        have hg0 := HSt.out.2.1.lt
        by_cases hlt2 : i < L.length
        · obtain ⟨x, hxk⟩ : ∃ x, L[i]? = some x := ⟨L[i], List.getElem?_eq_getElem _⟩
          have hD := ord_deliver hn hxk (by rw [← HN.out.1]; exact HN.out.2)
          rw [← HN.out.1] at hD
          have HX := Lib.hid hxk
          obtain ⟨M, hMe⟩ : ∃ M, M = ord2 L (i + 1) := ⟨_, rfl⟩
          rw [← hMe] at hD
          have HM : Hid (M = ord2 L (i + 1) ∧ checkB M = true) := Lib.hid ⟨hMe, hD.2⟩
          have HD := Lib.hid hD.1
          clear hD hMe hxk
          have n0 := HSt.out.2.1.cells 0 _ rfl
          have n1 := HSt.out.2.1.cells 1 _ rfl
          have n2 := HSt.out.2.1.cells 2 _ rfl
          have n3 := HSt.out.2.1.cells 3 _ rfl
          have n4 := HSt.out.2.1.cells 4 _ rfl
          simp only [List.getElem_toArray, List.getElem_cons_zero, List.getElem_cons_succ] at n0 n1 n2 n3 n4
          go_wp2_with fail
          refine (deliver_any N A1 N.way.length c1 0 _ HSt.out.2.2).mono ?_
          rintro e w5 ⟨v, rfl, hO5, hb5⟩
          rw [HD.out] at hO5 ⊢
          obtain ⟨A5, c5, rfl, ho1⟩ := hO5
          simp only [lv] at ho1 ⊢
          clear n0 n1 n2 n3 n4
          have HB5 := Lib.hid hb5
          have HO5 := Lib.hid ho1
          clear hb5 ho1
          go_wp2_with fail
          have hB6 : Below wr.heap.size wr ((w5.alloc (.cells #[.string x.fr, .string x.to, .string x.text] 27)).alloc (.cells #[.slice A5 M.way.length c5, .int .i64 M.sent, .int .i64 M.delivered, .int .i64 M.lost, .int .i64 M.doubled] 25)) := HB5.out.trans (by have := HB5.out.size; go_grown)
          have hO6 : ((w5.alloc (.cells #[.string x.fr, .string x.to, .string x.text] 27)).alloc (.cells #[.slice A5 M.way.length c5, .int .i64 M.sent, .int .i64 M.delivered, .int .i64 M.lost, .int .i64 M.doubled] 25)).ownsRow wr.heap.size 27 3 (.slice A5 M.way.length c5) M.way.length (flat encL M.way) := (HO5.out.alloc _).alloc _
          have hl6 := (Blk.new w5 27 #[.string x.fr, .string x.to, .string x.text]).alloc (.cells #[.slice A5 M.way.length c5, .int .i64 M.sent, .int .i64 M.delivered, .int .i64 M.lost, .int .i64 M.doubled] 25)
          have hm6 := Blk.new_at (w := w5.alloc (.cells #[.string x.fr, .string x.to, .string x.text] 27)) (g := w5.heap.size + 1) (by simp) 25 #[.slice A5 M.way.length c5, .int .i64 M.sent, .int .i64 M.delivered, .int .i64 M.lost, .int .i64 M.doubled]
          generalize (w5.alloc (.cells #[.string x.fr, .string x.to, .string x.text] 27)).alloc (.cells #[.slice A5 M.way.length c5, .int .i64 M.sent, .int .i64 M.delivered, .int .i64 M.lost, .int .i64 M.doubled] 25) = w6 at *
          have hS6 := HSt.out.below hB6
          obtain ⟨b, off, rfl, hb, d0, d1, d2⟩ := HC.out w6 hS6.1 i x HX.out
          have l0 := hl6.cells 0 _ rfl
          have l1 := hl6.cells 1 _ rfl
          have l2 := hl6.cells 2 _ rfl
          have m0 := hm6.cells 0 _ rfl
          have m1 := hm6.cells 1 _ rfl
          have m2 := hm6.cells 2 _ rfl
          have m3 := hm6.cells 3 _ rfl
          have m4 := hm6.cells 4 _ rfl
          have n0 := hS6.2.1.cells 0 _ rfl
          have n1 := hS6.2.1.cells 1 _ rfl
          have n2 := hS6.2.1.cells 2 _ rfl
          have n3 := hS6.2.1.cells 3 _ rfl
          have n4 := hS6.2.1.cells 4 _ rfl
          have gf := hS6.2.1.frozen
          simp only [List.getElem_toArray, List.getElem_cons_zero, List.getElem_cons_succ] at l0 l1 l2 m0 m1 m2 m3 m4 n0 n1 n2 n3 n4
          have i0 : (0 : Int) ≤ (i : Int) := by omega
          have i1 : (i : Int) < (L.length : Int) := by omega
          have he := neq_letter x x
          have hxx : leqB x x = true := (leqB_iff x x).2 rfl
          simp only [hxx, Bool.not_true] at he
          have HB6 := Lib.hid hB6
          have HO6 := Lib.hid hO6
          clear hB6 hO6 hl6 hm6 hS6 HB5 HO5 hxx HD
          go_big_quiet (fail)
          go_wp2_with fail
          go_roundw
          case rel => exact ⟨i + 1, M, A5, c5, by omega, by go_num, HM, Lib.hid (ordSt_store (wx := w6.drewN nq) HSt.out (below_drewN HB6.out _) (own_drewN HO6.out _) (Nat.le_refl _))⟩
          case measure => simp [intOf]; omega
        · obtain rfl : i = L.length := by omega
          have e0 : N.way.length = 0 := by rw [HN.out.1]; simp [ord2]
          have e1 : N.sent = L.length := by rw [HN.out.1]; rfl
          have e2 : N.delivered = L.length := by rw [HN.out.1]; rfl
          go_wp2_with fail
          refine (nets_any _).mono ?_
          rintro e w6 ⟨rfl, hb6⟩
          have hS6 := HSt.out.below hb6
          have n0 := hS6.2.1.cells 0 _ rfl
          have n1 := hS6.2.1.cells 1 _ rfl
          have n2 := hS6.2.1.cells 2 _ rfl
          simp only [List.getElem_toArray, List.getElem_cons_zero, List.getElem_cons_succ] at n0 n1 n2
          rw [e0] at n0
          rw [e1] at n1
          rw [e2] at n2
          have hB6 := hS6.1
          clear e0 e1 e2 hS6 hb6
          go_wp2_with (with_reducible refine end_at ?_)
          refine end_ret (results_tmp rfl _ _ _) rfl ⟨rfl, hB6⟩
theorem order_any (L : List Letter) (A : Option Addr) (n c : Nat) (w : World) (hS : SlR encL 3 w w.heap.size A n L) (hn0 : n ≤ 140737488351232) (hok : ∀ l ∈ L, LetterOk l) :
    Calls Try.prog 6 #[.slice A n c] w fun e w' => e = .returned (.bool true) ∧ Below w.heap.size w w' := by
  obtain ⟨rfl, hA⟩ := hS
  by_cases hn : L.length ≤ 60
  · refine order_main L A c w (Lib.hid fun W hb k x hx => ?_) (Lib.hid hok) hn
    have hk := (List.getElem?_eq_some_iff.1 hx).1
    obtain ⟨b, off, e, hb2, hC⟩ := hA.resolve_left (by omega)
    obtain ⟨q1, q2, q3⟩ := (hC.below hb hb2).letter hx
    exact ⟨b, off, e, hb2, q1, q2, q3⟩
  · go_enter Try.func6, Try.ntmps6
    go_wp2_with (with_reducible refine end_at ?_)
    refine end_ret (results_tmp rfl _ _ _) rfl ⟨rfl, by go_grown⟩
end Go.Proofs.Ytojabnaabgbclaa
