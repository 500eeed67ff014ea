/- NetSent: the walk. -/
import Derived.Test.YtojabnaabgbclaaNetI
import Derived.Test.YtojabnaabgbclaaNetJ
import Derived.Test.YtojabnaabgbclaaNetP
set_option linter.unusedVariables false
namespace Go.Proofs.Ytojabnaabgbclaa
open Go.RowKit
def encOp (o : Op) : List Value := [.int .i64 o.kind, .string o.letter.fr, .string o.letter.to, .string o.letter.text, .int .i64 o.i]
theorem SlC.op {w : World} {b off : Nat} {L : List Op} (h : SlC encOp 5 w b off L) {k : Nat} {o : Op} (hl : L[k]? = some o) :
    w.cell? ⟨b, off + k * 5, none⟩ = some (.int .i64 o.kind) ∧ w.cell? ⟨b, off + k * 5 + 1, none⟩ = some (.string o.letter.fr) ∧ w.cell? ⟨b, off + k * 5 + 2, none⟩ = some (.string o.letter.to) ∧
    w.cell? ⟨b, off + k * 5 + 3, none⟩ = some (.string o.letter.text) ∧ w.cell? ⟨b, off + k * 5 + 4, none⟩ = some (.int .i64 o.i) :=
  ⟨h k o hl 0 _ rfl, h k o hl 1 _ rfl, h k o hl 2 _ rfl, h k o hl 3 _ rfl, h k o hl 4 _ rfl⟩
def OpOk (o : Op) : Prop := o.letter.fr.size ≤ 140737488355328 ∧ o.letter.to.size ≤ 140737488355328

/-- the loop's state: the net in box g, what was sent in v -/
def SentSt (w : World) (base g : Nat) (N : Net) (S : List Letter) (v : Value) : Prop :=
  ∃ A c As cs, v = .slice As S.length cs ∧ Blk w g 25 #[.slice A N.way.length c, .int .i64 N.sent, .int .i64 N.delivered, .int .i64 N.lost, .int .i64 N.doubled] ∧
    SlR encL 3 w w.heap.size A N.way.length N.way ∧ w.ownsRow base 27 3 (.slice As S.length cs) S.length (flat encL S) ∧
    (∀ b off, A = some ⟨b, off, none⟩ → (Value.slice As S.length cs).ownBlock ≠ some b)

/-- behind a step that was done: the old net in box g0, the new one in box gm, what was sent in a row -/
def MidSt (w wX : World) (gm : Nat) (A : Option Addr) (cn : Nat) (N : Net) (A1 : Option Addr) (c1 : Nat) (M : Net) (AX : Option Addr) (nX cX : Nat) (S : List Letter) : Prop :=
  Below w.heap.size w wX ∧ Blk wX w.heap.size 25 #[.slice A N.way.length cn, .int .i64 N.sent, .int .i64 N.delivered, .int .i64 N.lost, .int .i64 N.doubled] ∧
  Blk wX gm 25 #[.slice A1 M.way.length c1, .int .i64 M.sent, .int .i64 M.delivered, .int .i64 M.lost, .int .i64 M.doubled] ∧
  wX.ownsRow (w.heap.size + 1) 27 3 (.slice AX nX cX) nX (flat encL S) ∧ S.length = nX ∧
  SlR encL 3 wX wX.heap.size A1 M.way.length M.way ∧ (∀ b off, A1 = some ⟨b, off, none⟩ → (Value.slice AX nX cX).ownBlock ≠ some b ∧ w.heap.size < b) ∧ w.heap.size < gm
theorem MidSt.below {w wX wY : World} {gm cn c1 nX cX : Nat} {A A1 AX : Option Addr} {N M : Net} {S : List Letter} (h : MidSt w wX gm A cn N A1 c1 M AX nX cX S) (hb : Below wX.heap.size wX wY) : MidSt w wY gm A cn N A1 c1 M AX nX cX S := by
  obtain ⟨h1, h2, h3, h4, h5, h6, h7, h8⟩ := h
  exact ⟨h1.trans (hb.mono h1.size), h2.below hb h2.lt, h3.below hb h3.lt, own_below h4 hb (Nat.le_refl _), h5, (h6.below hb).more hb.size, h7, h8⟩
theorem MidSt.slr {w wX : World} {gm cn c1 nX cX : Nat} {A A1 AX : Option Addr} {N M : Net} {S : List Letter} (h : MidSt w wX gm A cn N A1 c1 M AX nX cX S) : SlR encL 3 wX wX.heap.size AX nX S :=
  SlR.of_own encL_len h.2.2.2.1 h.2.2.2.2.1
theorem MidSt.store {w wX : World} {gm cn c1 nX cX : Nat} {A A1 AX : Option Addr} {N M : Net} {S : List Letter} (h : MidSt w wX gm A cn N A1 c1 M AX nX cX S) :
    SentSt (((((wX.setCell ⟨w.heap.size, 0, none⟩ (.slice A1 M.way.length c1)).setCell ⟨w.heap.size, 1, none⟩ (.int .i64 M.sent)).setCell ⟨w.heap.size, 2, none⟩ (.int .i64 M.delivered)).setCell ⟨w.heap.size, 3, none⟩ (.int .i64 M.lost)).setCell ⟨w.heap.size, 4, none⟩ (.int .i64 M.doubled))
      (w.heap.size + 1) w.heap.size M S (.slice AX nX cX) := by
  obtain ⟨h1, h2, h3, h4, h5, h6, h7, h8⟩ := h
  subst h5
  have hne : ∀ b off, A1 = some ⟨b, off, none⟩ → b ≠ w.heap.size := fun b off e => by have := (h7 b off e).2; omega
  refine ⟨A1, c1, AX, cX, rfl, by simpa using ((((h2.set_ 0 _).set_ 1 _).set_ 2 _).set_ 3 _).set_ 4 _, ?_, ?_, fun b off e => (h7 b off e).1⟩
  · have := ((((h6.set_far hne 0 (.slice A1 M.way.length c1)).set_far hne 1 (.int .i64 M.sent)).set_far hne 2 (.int .i64 M.delivered)).set_far hne 3 (.int .i64 M.lost)).set_far hne 4 (.int .i64 M.doubled)
    exact this.more (by simp)
  · repeat' (first | (with_reducible exact h4) | (with_reducible refine ownsRow_setCell_below ?_ (by simp) _))

set_option maxHeartbeats 2000000 in
set_option maxRecDepth 100000 in
theorem sent_x (L : List Op) (b off c : Nat) (w : World) (hC : SlC encOp 5 w b off L) (hb : b < w.heap.size) (hn : L.length ≤ 100) (hok : ∀ o ∈ L, OpOk o) :
    Calls Try.prog 3 #[.slice (some ⟨b, off, none⟩) L.length c] w fun e w' => e = .returned (.bool true) ∧ Below w.heap.size w w' := by
  have HC := Lib.hid hC
  have HOk := Lib.hid hok
  clear hC hok
  obtain ⟨i0, hi0, hz0, hz1, hz2⟩ := info_parts letter_info
  go_enter Try.func3, Try.ntmps3
  go_wp2_with fail
  go_loopw [4, 5] (fun v i wr => ∃ (k : Nat) (N : Net) (S : List Letter), k ≤ L.length ∧ S.length ≤ k ∧ i = .int .i64 k ∧ Hid (Inv N S) ∧ Hid (SentSt wr (w.heap.size + 1) w.heap.size N S v) ∧ Below w.heap.size w wr) (fun _ i _ => L.length - (intOf i).toNat)
  case atStart => exact ⟨0, noNet, [], Nat.zero_le _, Nat.le_refl _, rfl, inv_none, ⟨none, 0, none, 0, rfl, Blk.new _ _ _, SlR.nil_, World.ownsRow_nil _ _ _ _, fun b off h => by cases h⟩, by go_grown⟩
  case round =>
    obtain ⟨k, N, S, hk, hSk, rfl, HI, HSt, hB⟩ := hrel
    obtain ⟨A, cn, As, cs, rfl, hbox, hNs, hown, hap⟩ := HSt.out
    by_cases hlt : k < L.length
    · obtain ⟨o, ho⟩ : ∃ x, L[k]? = some x := ⟨L[k], List.getElem?_eq_getElem hlt⟩
      obtain ⟨c0, c1, c2, c3, c4⟩ := (HC.out.below hB hb).op ho
      obtain ⟨hs1, hs2⟩ := HOk.out o (List.mem_of_getElem? ho)
      have n0 := hbox.cells 0 _ rfl
      have n1 := hbox.cells 1 _ rfl
      have n2 := hbox.cells 2 _ rfl
      have n3 := hbox.cells 3 _ rfl
      have n4 := hbox.cells 4 _ rfl
      have hg0 := hbox.lt
      simp only [List.getElem_toArray, List.getElem_cons_zero, List.getElem_cons_succ] at n0 n1 n2 n3 n4
      have HK := Lib.hid (And.intro hbox (And.intro hNs (And.intro hown hap)))
      clear ho hbox hNs hown hap
      by_cases hbig : 200 < o.letter.fr.size + o.letter.to.size
      · go_wp2_with fail
        refine (nets_any _).mono ?_
        rintro e w1 ⟨rfl, hb1⟩
        go_wp2_with (with_reducible refine end_at ?_)
        refine end_ret (results_tmp rfl _ _ _) rfl ⟨rfl, Below.trans (by go_grown) (hb1.mono (by simp; omega))⟩
      · by_cases hbt : 4100 < o.letter.text.size
        · go_wp2_with fail
          refine (nets_any _).mono ?_
          rintro e w1 ⟨rfl, hb1⟩
          go_wp2_with (with_reducible refine end_at ?_)
          refine end_ret (results_tmp rfl _ _ _) rfl ⟨rfl, Below.trans (by go_grown) (hb1.mono (by simp; omega))⟩
        · obtain ⟨l, M, er, hr⟩ : ∃ l M er, lstepF N o = (l, M, er) := ⟨_, _, _, rfl⟩
          have HR := Lib.hid hr
          clear hr
          have q : Hid (lstepF N o = (l, M, er)) := HR
          go_wp2_with fail
          refine (lstep_any N o A _ cn _ ((HK.out.2.1.below ((Below.refl _ _).alloc (Nat.le_refl _) _)).more (by simp))).mono ?_
          rintro e w1 ⟨v, rfl, ⟨A1, c1', rfl, hown1⟩, hb1⟩
          rw [HR.out] at hown1 ⊢
          have hz1' := hb1.size
          simp only [World.size_alloc] at hz1' hown1
          have hB1 : Below w.heap.size w w1 := Below.trans (by go_grown) (hb1.mono (by simp; omega))
          have hoB := (Blk.new wr _ _).below hb1 (by simp)
          have hbx1 := (HK.out.1.alloc _).below hb1 (by simp; omega)
          have ho1 := own_below (HK.out.2.2.1.alloc _) hb1 (Nat.le_refl _)
          have hNs1 := (HK.out.2.1.below (((Below.refl _ _).alloc (Nat.le_refl _) _).trans (hb1.mono (by simp)))).more (show wr.heap.size ≤ w1.heap.size by omega)
          have hM1 : SlR encL 3 w1 w1.heap.size A1 M.way.length M.way := SlR.of_own encL_len hown1 rfl
          have hap1 : ∀ b off, A1 = some ⟨b, off, none⟩ → (Value.slice As S.length cs).ownBlock ≠ some b := by
            intro b off hA e
            obtain ⟨_, h2⟩ := HK.out.2.2.1.lt b e
            subst hA
            have := (hown1.lt b rfl).1
            omega
          have hlo : ∀ b off, A1 = some ⟨b, off, none⟩ → wr.heap.size < b ∧ b < w1.heap.size := by
            intro b off hA
            subst hA
            have := hown1.lt b rfl
            omega
          have k0 := hoB.cells 0 _ rfl
          have k1 := hoB.cells 1 _ rfl
          have k2 := hoB.cells 2 _ rfl
          have k3 := hoB.cells 3 _ rfl
          have k4 := hoB.cells 4 _ rfl
          have hzz : wr.heap.size < w1.heap.size := by omega
          simp only [List.getElem_toArray, List.getElem_cons_zero, List.getElem_cons_succ] at k0 k1 k2 k3 k4
          have HA := Lib.hid (And.intro hB1 (And.intro hoB (And.intro hbx1 (And.intro ho1 (And.intro hNs1 (And.intro hM1 (And.intro hap1 hlo)))))))
          clear hb1 hoB hbx1 ho1 hNs1 hM1 hap1 hlo hB1 c0 c1 c2 c3 c4 n0 n1 n2 n3 n4
          simp only [lv]
          by_cases her : er = 0
          · have HIS := Lib.hid (inv_step N M S o l HI.out (by rw [HR.out, her]))
            have t0 : (er != 0) = false := by simp [her]
            have hM60 : M.way.length ≤ 60 := (fine_of M HIS.out.1.1).1
            clear her
            by_cases hk1 : o.kind = 1
            · have t1 : (o.kind == 1) = true := by simp [hk1]
              have t2 : (o.kind == 2) = false := by simp [hk1]
              have HS' := HIS.out.1
              rw [if_pos hk1] at HS'
              have HI' := Lib.hid HS'
              clear HS' hk1
              go_wp2_with (at_builtin; refine wpList_append_any _ rfl (.tmp 54) (.tmp 57) _ rfl (w.heap.size + 1) _ i0 _ 3 48 Try.underlying23 hi0 hz0 hz1 hz2 rfl (by omega) (.slice As S.length cs) S.length (flat encL S) rfl ((((HA.out.2.2.2.1).alloc _).alloc _).alloc _) (w1.heap.size + 1 + 1 + 1) (some ⟨w1.heap.size + 1 + 1, 0, none⟩) 1 1 [.string o.letter.fr, .string o.letter.to, .string o.letter.text] rfl (Reads.new_at (by simp) 27 #[.string o.letter.fr, .string o.letter.to, .string o.letter.text] rfl) (one_flat [o.letter]) (by simp only [maxLen]; omega) (by omega) (by simp; omega) ?_; intro v1 w2 hown2 hg2 hat2; obtain ⟨A2, c2, rfl, _, _, _⟩ := own_form hown2; have hsl := HK.out.2.2.1.lt; have hoX := ((((HA.out.2.1).alloc _).alloc _).alloc _).grown hg2 (fun e => by have := (hsl _ e.symm).2; omega); have x0 := hoX.cells 0 _ rfl; have HM : Hid (MidSt w w2 (w1.heap.size + 1) A cn N A1 c1' M A2 (S.length + 1) c2 (S ++ [o.letter])) := ⟨Below.grown (by have := HA.out.1; go_grown) hg2 (by simp; omega) (fun k e => by have := (hsl _ e).1; omega), ((((HA.out.2.2.1).alloc _).alloc _).alloc _).grown hg2 (fun e => by have := (hsl _ e.symm).1; omega), ((Blk.new_at (g := w1.heap.size + 1) (by simp) _ _).alloc _).grown hg2 (fun e => by have := (hsl _ e.symm).2; omega), by rw [flat_snoc]; exact hown2, by simp, ((HA.out.2.2.2.2.2.1.below ((((Below.refl _ _).alloc (Nat.le_refl _) _).alloc (by simp) _).alloc (by simp; omega) _)).grown hg2 (by simp; omega) (HA.out.2.2.2.2.2.2.1)).more (by have := hg2.size; simp at this; omega), fun b off e => ⟨fun e' => by rcases hat2 with h | h; (exact HA.out.2.2.2.2.2.2.1 b off e (h.symm.trans e')); (rw [h] at e'; injection e' with e'; have := HA.out.2.2.2.2.2.2.2 b off e; simp at e'; omega), by have := HA.out.2.2.2.2.2.2.2 b off e; omega⟩, by omega⟩; clear hsl hoX hown2 hg2 hat2; have hmb := HM.out.2.2.1; have m0 := hmb.cells 0 _ rfl; have m1 := hmb.cells 1 _ rfl; have m2 := hmb.cells 2 _ rfl; have m3 := hmb.cells 3 _ rfl; have m4 := hmb.cells 4 _ rfl; clear hmb)
              have hcm := HI'.out.1
              refine (check_any M A1 _ c1' _ HM.out.2.2.2.2.2.1).mono ?_
              rintro e w4 ⟨rfl, hb4⟩
              rw [hcm]
              replace HM : Hid (MidSt w w4 (w1.heap.size + 1) A cn N A1 c1' M A2 (S.length + 1) c2 (S ++ [o.letter])) := HM.out.below hb4
              clear hb4 hcm
              have HCM := Lib.hid HI'.out.1
              clear x0 m0 m1 m2 m3 m4
              go_wp2_with fail
              go_loopw [10] (fun i wi => ∃ j : Nat, j ≤ M.way.length ∧ i = .int .i64 j ∧ Hid (MidSt w wi (w1.heap.size + 1) A cn N A1 c1' M A2 (S.length + 1) c2 (S ++ [o.letter]))) (fun i _ => M.way.length - (intOf i).toNat)
              case atStart => exact ⟨0, Nat.zero_le _, rfl, HM⟩
              case round =>
                obtain ⟨j, hj, rfl, HMi⟩ := hrel
                have hbm := HMi.out.2.2.1
                have m0 := hbm.cells 0 _ rfl
                have m1 := hbm.cells 1 _ rfl
                have m2 := hbm.cells 2 _ rfl
                have m3 := hbm.cells 3 _ rfl
                have m4 := hbm.cells 4 _ rfl
                simp only [List.getElem_toArray, List.getElem_cons_zero, List.getElem_cons_succ] at m0 m1 m2 m3 m4
                clear hbm
                by_cases hjl : j < M.way.length
                · obtain ⟨y, hy⟩ : ∃ x, M.way[j]? = some x := ⟨M.way[j], List.getElem?_eq_getElem hjl⟩
                  rcases HMi.out.2.2.2.2.2.1.2 with h0 | ⟨b1, off1, rfl, hb1', hC1⟩
                  · omega
                  obtain ⟨d0, d1, d2⟩ := hC1.letter hy
                  have hyS : inL (S ++ [o.letter]) y = true := (inL_iff _ _).2 (HI'.out.2.1 y (List.mem_of_getElem? hy))
                  clear hy hC1
                  go_wp2_with fail
                  refine (in_any (S ++ [o.letter]) y _ _ _ _ HMi.out.slr (by omega)).mono ?_
                  rintro e w5 ⟨rfl, hb5⟩
                  rw [hyS]
                  clear d0 d1 d2 m0 m1 m2 m3 m4
                  go_wp2_with fail
                  go_roundw
                  case rel => exact ⟨j + 1, by omega, by go_num, HMi.out.below hb5⟩
                  case measure => simp [intOf]; omega
                · obtain rfl : j = M.way.length := by omega
                  have hg0' := HMi.out.2.1
                  have g0 := hg0'.cells 0 _ rfl
                  have g1 := hg0'.cells 1 _ rfl
                  have g2 := hg0'.cells 2 _ rfl
                  have g3 := hg0'.cells 3 _ rfl
                  have g4 := hg0'.cells 4 _ rfl
                  have gf := hg0'.frozen
                  simp only [List.getElem_toArray, List.getElem_cons_zero, List.getElem_cons_succ] at g0 g1 g2 g3 g4
                  clear hg0'
                  go_wp2_with fail
                  go_roundw
                  case rel => exact ⟨k + 1, M, (S ++ [o.letter]), by omega, by simp; omega, by go_num, HI', HMi.out.store, by have := HMi.out.1; go_grown⟩
                  case measure => simp [intOf]; omega
            · have t1 : (o.kind == 1) = false := by simp [hk1]
              have HS' := HIS.out.1
              rw [if_neg hk1] at HS'
              have HI' := Lib.hid HS'
              clear HS' hk1
              have HM : Hid (MidSt w ((w1.alloc (.cells #[.string l.fr, .string l.to, .string l.text] 27)).alloc (.cells #[.slice A1 M.way.length c1', .int .i64 M.sent, .int .i64 M.delivered, .int .i64 M.lost, .int .i64 M.doubled] 25)) (w1.heap.size + 1) A cn N A1 c1' M As S.length cs S) := ⟨by have := HA.out.1; go_grown, ((HA.out.2.2.1).alloc _).alloc _, Blk.new_at (g := w1.heap.size + 1) (by simp) _ _, ((HA.out.2.2.2.1).alloc _).alloc _, rfl, (HA.out.2.2.2.2.2.1.below (((Below.refl _ _).alloc (Nat.le_refl _) _).alloc (by simp) _)).more (by simp; omega), fun b off e => ⟨HA.out.2.2.2.2.2.2.1 b off e, by have := HA.out.2.2.2.2.2.2.2 b off e; omega⟩, by omega⟩
              by_cases hk2 : o.kind = 2
              · have t2 : (o.kind == 2) = true := by simp [hk2]
                have hin := (inL_iff S l).2 (HIS.out.2 hk2)
                clear hk2
                go_wp2_with fail
                refine (in_any S l _ _ _ _ HM.out.slr (by omega)).mono ?_
                rintro e w3 ⟨rfl, hb3⟩
                rw [hin]
                replace HM : Hid (MidSt w w3 (w1.heap.size + 1) A cn N A1 c1' M As S.length cs S) := HM.out.below hb3
                clear hb3 hin
                have hmb := HM.out.2.2.1
                have m0 := hmb.cells 0 _ rfl
                have m1 := hmb.cells 1 _ rfl
                have m2 := hmb.cells 2 _ rfl
                have m3 := hmb.cells 3 _ rfl
                have m4 := hmb.cells 4 _ rfl
                simp only [List.getElem_toArray, List.getElem_cons_zero, List.getElem_cons_succ] at m0 m1 m2 m3 m4
                clear hmb
                have x0 := True.intro
                go_wp2_with fail
                have hcm := HI'.out.1
                refine (check_any M A1 _ c1' _ HM.out.2.2.2.2.2.1).mono ?_
                rintro e w4 ⟨rfl, hb4⟩
                rw [hcm]
                replace HM : Hid (MidSt w w4 (w1.heap.size + 1) A cn N A1 c1' M As (S.length) cs S) := HM.out.below hb4
                clear hb4 hcm
                have HCM := Lib.hid HI'.out.1
                clear x0 m0 m1 m2 m3 m4
                go_wp2_with fail
                go_loopw [10] (fun i wi => ∃ j : Nat, j ≤ M.way.length ∧ i = .int .i64 j ∧ Hid (MidSt w wi (w1.heap.size + 1) A cn N A1 c1' M As (S.length) cs S)) (fun i _ => M.way.length - (intOf i).toNat)
                case atStart => exact ⟨0, Nat.zero_le _, rfl, HM⟩
                case round =>
                  obtain ⟨j, hj, rfl, HMi⟩ := hrel
                  have hbm := HMi.out.2.2.1
                  have m0 := hbm.cells 0 _ rfl
                  have m1 := hbm.cells 1 _ rfl
                  have m2 := hbm.cells 2 _ rfl
                  have m3 := hbm.cells 3 _ rfl
                  have m4 := hbm.cells 4 _ rfl
                  simp only [List.getElem_toArray, List.getElem_cons_zero, List.getElem_cons_succ] at m0 m1 m2 m3 m4
                  clear hbm
                  by_cases hjl : j < M.way.length
                  · obtain ⟨y, hy⟩ : ∃ x, M.way[j]? = some x := ⟨M.way[j], List.getElem?_eq_getElem hjl⟩
                    rcases HMi.out.2.2.2.2.2.1.2 with h0 | ⟨b1, off1, rfl, hb1', hC1⟩
                    · omega
                    obtain ⟨d0, d1, d2⟩ := hC1.letter hy
                    have hyS : inL S y = true := (inL_iff _ _).2 (HI'.out.2.1 y (List.mem_of_getElem? hy))
                    clear hy hC1
                    go_wp2_with fail
                    refine (in_any S y _ _ _ _ HMi.out.slr (by omega)).mono ?_
                    rintro e w5 ⟨rfl, hb5⟩
                    rw [hyS]
                    clear d0 d1 d2 m0 m1 m2 m3 m4
                    go_wp2_with fail
                    go_roundw
                    case rel => exact ⟨j + 1, by omega, by go_num, HMi.out.below hb5⟩
                    case measure => simp [intOf]; omega
                  · obtain rfl : j = M.way.length := by omega
                    have hg0' := HMi.out.2.1
                    have g0 := hg0'.cells 0 _ rfl
                    have g1 := hg0'.cells 1 _ rfl
                    have g2 := hg0'.cells 2 _ rfl
                    have g3 := hg0'.cells 3 _ rfl
                    have g4 := hg0'.cells 4 _ rfl
                    have gf := hg0'.frozen
                    simp only [List.getElem_toArray, List.getElem_cons_zero, List.getElem_cons_succ] at g0 g1 g2 g3 g4
                    clear hg0'
                    go_wp2_with fail
                    go_roundw
                    case rel => exact ⟨k + 1, M, S, by omega, by omega, by go_num, HI', HMi.out.store, by have := HMi.out.1; go_grown⟩
                    case measure => simp [intOf]; omega
              · have t2 : (o.kind == 2) = false := by simp [hk2]
                clear hk2
                go_wp2_with fail
                have hcm := HI'.out.1
                refine (check_any M A1 _ c1' _ HM.out.2.2.2.2.2.1).mono ?_
                rintro e w4 ⟨rfl, hb4⟩
                rw [hcm]
                replace HM : Hid (MidSt w w4 (w1.heap.size + 1) A cn N A1 c1' M As (S.length) cs S) := HM.out.below hb4
                clear hb4 hcm
                have x0 := True.intro
                have m0 := True.intro
                have m1 := True.intro
                have m2 := True.intro
                have m3 := True.intro
                have m4 := True.intro
                have HCM := Lib.hid HI'.out.1
                clear x0 m0 m1 m2 m3 m4
                go_wp2_with fail
                go_loopw [10] (fun i wi => ∃ j : Nat, j ≤ M.way.length ∧ i = .int .i64 j ∧ Hid (MidSt w wi (w1.heap.size + 1) A cn N A1 c1' M As (S.length) cs S)) (fun i _ => M.way.length - (intOf i).toNat)
                case atStart => exact ⟨0, Nat.zero_le _, rfl, HM⟩
                case round =>
                  obtain ⟨j, hj, rfl, HMi⟩ := hrel
                  have hbm := HMi.out.2.2.1
                  have m0 := hbm.cells 0 _ rfl
                  have m1 := hbm.cells 1 _ rfl
                  have m2 := hbm.cells 2 _ rfl
                  have m3 := hbm.cells 3 _ rfl
                  have m4 := hbm.cells 4 _ rfl
                  simp only [List.getElem_toArray, List.getElem_cons_zero, List.getElem_cons_succ] at m0 m1 m2 m3 m4
                  clear hbm
                  by_cases hjl : j < M.way.length
                  · obtain ⟨y, hy⟩ : ∃ x, M.way[j]? = some x := ⟨M.way[j], List.getElem?_eq_getElem hjl⟩
                    rcases HMi.out.2.2.2.2.2.1.2 with h0 | ⟨b1, off1, rfl, hb1', hC1⟩
                    · omega
                    obtain ⟨d0, d1, d2⟩ := hC1.letter hy
                    have hyS : inL S y = true := (inL_iff _ _).2 (HI'.out.2.1 y (List.mem_of_getElem? hy))
                    clear hy hC1
                    go_wp2_with fail
                    refine (in_any S y _ _ _ _ HMi.out.slr (by omega)).mono ?_
                    rintro e w5 ⟨rfl, hb5⟩
                    rw [hyS]
                    clear d0 d1 d2 m0 m1 m2 m3 m4
                    go_wp2_with fail
                    go_roundw
                    case rel => exact ⟨j + 1, by omega, by go_num, HMi.out.below hb5⟩
                    case measure => simp [intOf]; omega
                  · obtain rfl : j = M.way.length := by omega
                    have hg0' := HMi.out.2.1
                    have g0 := hg0'.cells 0 _ rfl
                    have g1 := hg0'.cells 1 _ rfl
                    have g2 := hg0'.cells 2 _ rfl
                    have g3 := hg0'.cells 3 _ rfl
                    have g4 := hg0'.cells 4 _ rfl
                    have gf := hg0'.frozen
                    simp only [List.getElem_toArray, List.getElem_cons_zero, List.getElem_cons_succ] at g0 g1 g2 g3 g4
                    clear hg0'
                    go_wp2_with fail
                    go_roundw
                    case rel => exact ⟨k + 1, M, S, by omega, by omega, by go_num, HI', HMi.out.store, by have := HMi.out.1; go_grown⟩
                    case measure => simp [intOf]; omega
          · have t0 : (er != 0) = true := by simpa using her
            clear her
            go_wp2_with fail
            go_roundw
            case rel => exact ⟨k + 1, N, S, by omega, by omega, by go_num, HI, ⟨A, cn, As, cs, rfl, (HA.out.2.2.1.alloc _).alloc _, (HA.out.2.2.2.2.1.below (((Below.refl _ _).alloc (Nat.le_refl _) _).alloc (by simp) _)).more (by simp; omega), ((HA.out.2.2.2.1).alloc _).alloc _, HK.out.2.2.2⟩, by have := HA.out.1; go_grown⟩
            case measure => simp [intOf]; omega
    · obtain rfl : k = L.length := by omega
      have n1 := hbox.cells 1 _ rfl
      simp only [List.getElem_toArray, List.getElem_cons_zero, List.getElem_cons_succ] at n1
      rw [HI.out.2.2] at n1
      have hg0 := hbox.lt
      clear hNs hown hap
      go_wp2_with fail
      refine (nets_any _).mono ?_
      rintro e w1 ⟨rfl, hb1⟩
      have m1 := (hb1.cell (p := ⟨w.heap.size, 1, none⟩) hg0).trans n1
      go_wp2_with (with_reducible refine end_at ?_)
      refine end_ret (results_tmp rfl _ _ _) rfl ⟨rfl, Below.trans (by go_grown) (hb1.mono (by omega))⟩
end Go.Proofs.Ytojabnaabgbclaa
