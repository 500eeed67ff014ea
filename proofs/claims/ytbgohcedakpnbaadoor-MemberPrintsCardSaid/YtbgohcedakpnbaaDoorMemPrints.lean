/- MemberPrints: the walk. -/
import Derived.Test.YtbgohcedakpnbaaDoorMemQ
import Derived.Test.YtbgohcedakpnbaaDoorRMemD
set_option linter.unusedVariables false
set_option linter.unusedSimpArgs false
namespace Go.Proofs.YtbgohcedakpnbaaDoor
open Go.RowKit Go.Shelf
theorem prints_same (r : Rec) : sameR r r = true := by simp [sameR, textsB_self]
theorem prints_len {r : Rec} (h : bigR r = false) : r.names.length ≤ 30 ∧ r.pledges.length ≤ 30 := by
  unfold bigR at h
  simp only [Bool.or_eq_false_iff, decide_eq_false_iff_not] at h
  omega
/-- a record's box at g whose row of names may be written -/
def SmuAt (W : World) (B g : Nat) (xs : Array Value) (A : Option Addr) (n : Nat) : Prop :=
  Blk W g 24 xs ∧ B ≤ g ∧ (n = 0 ∨ ∃ (g0 : Nat) (cs : Array Value), A = some ⟨g0, 0, none⟩ ∧ B ≤ g0 ∧ n ≤ cs.size ∧ Blk W g0 9 cs)
theorem smu_start {w W : World} {B g n c : Nat} {A : Option Addr} {L : List ByteArray} {xs : Array Value} (h : SRow w B (.slice A n c) L) (hl : L.length = n) (hW : Below w.heap.size w W) (hb : Blk W g 24 xs) (hg : B ≤ g) : SmuAt W B g xs A n := by
  refine ⟨hb, hg, ?_⟩
  rcases h.2 with ⟨h1, h0⟩ | ⟨g0, cap, cur, hv, hb', hk, h1, h2, h3, _⟩
  · exact .inl (by omega)
  · injection hv with e1 e2 e3
    subst e1
    refine .inr ⟨g0, cur, rfl, hb', ?_, Blk.below hk hW (Array.getElem?_eq_some_iff.1 hk).1⟩
    have : cur.size = cap * 1 := by simpa using h3
    omega
theorem SmuAt.put {W : World} {B g n g0 : Nat} {xs cs : Array Value} (h : SmuAt W B g xs (some ⟨g0, 0, none⟩) n) (hk : Blk W g0 9 cs) (hcs : n ≤ cs.size) (j : Nat) (u : Value) : SmuAt (W.setCell ⟨g0, j, none⟩ u) B g xs (some ⟨g0, 0, none⟩) n := by
  refine ⟨h.1.far (p := ⟨g0, j, none⟩) (h.1.ne_ hk (by decide)) u, h.2.1, ?_⟩
  rcases h.2.2 with h0 | ⟨g1, c1, e, hb, hc, _⟩
  · exact .inl h0
  · injection e with e; injection e with e
    subst e
    exact .inr ⟨g0, _, rfl, hb, by simpa using hcs, hk.set_ j u⟩
set_option maxRecDepth 100000 in
set_option maxHeartbeats 16000000 in
theorem prints_main (r : Rec) (s nm : ByteArray) (A A' : Option Addr) (n c m d : Nat) (w : World) (hbig : bigR r = false) (hs : s.size ≤ 3000) (hnm : nm.size ≤ 100)
    (hN : SlR encS 1 w w.heap.size A n r.names) (hP : SlR encS 1 w w.heap.size A' m r.pledges) (hsn : ∀ s ∈ r.names, s.size ≤ 140737488351232) (hsp : ∀ s ∈ r.pledges, s.size ≤ 140737488351232) (hG : Pows w) (hE : Errs w) :
    Calls Tryd.prog 3 #[recV r A n c A' m d, .string s, .string nm] w fun e w' => e = .returned (.bool true) ∧ Below w.heap.size w w' := by
  have hlens := prints_len hbig
  have hln := hN.1
  have hlp := hP.1
  have hn30 : n ≤ 30 := by omega
  have hm30 : m ≤ 30 := by omega
  have HBI := Lib.hid (fun W (hW : Below w.heap.size w W) => mbig_any r A A' n c m d W ((hN.below hW).more hW.size) ((hP.below hW).more hW.size) hsn hsp)
  rw [hbig] at HBI
  have HRO := Lib.hid (fun W (hW : Below w.heap.size w W) => rown_any r A A' n c m d W ((hN.below hW).more hW.size) ((hP.below hW).more hW.size) (by omega) (by omega))
  have HPR := Lib.hid (fun W (hW : Below w.heap.size w W) => mprint_any r A A' n c m d W ((hN.below hW).more hW.size) ((hP.below hW).more hW.size) hsn hsp (hG.below hW))
  have HPL := Lib.hid (fun W (hW : Below w.heap.size w W) => mplace_any r nm A A' n c m d W ((hN.below hW).more hW.size) ((hP.below hW).more hW.size) hsn hsp)
  have HCK := Lib.hid (fun W (hW : Below w.heap.size w W) => mcheck_any r A A' n c m d W ((hN.below hW).more hW.size) ((hP.below hW).more hW.size) hsn hsp)
  have HME := Lib.hid (fun W (hW : Below w.heap.size w W) => members_any W (hG.below hW))
  obtain ⟨bs, fs, hps⟩ := parse_of s
  have HPS := Lib.hid (fun W (hW : Below w.heap.size w W) => mparse_any bs fs s W hps (by omega) (hG.below hW) (hE.below hW))
  have HRS := Lib.hid (fun W => rparse_any bs fs s W hps hs)
  have HNM := Lib.hid (fun W => name_any nm W (by omega))
  have HRN := Lib.hid (fun W => rname_any nm W (by omega))
  have HN := Lib.hid hN
  have HP := Lib.hid hP
  have HSZ := Lib.hid (And.intro hsn hsp)
  have HLN := Lib.hid (And.intro hln hlp)
  have HBSL : Hid (bs.names.length ≤ 30 ∧ bs.pledges.length ≤ 30) := Lib.hid (by
    rcases hps with ⟨_, h, _⟩ | ⟨_, rfl, _⟩
    · obtain ⟨⟨_, _, _, h4, h5, _, _⟩, _⟩ := (checkB_iff bs).1 h
      omega
    · exact ⟨Nat.zero_le _, Nat.zero_le _⟩)
  have HS1 : Hid (sameR r r = true) := Lib.hid (prints_same _)
  have HS2 : Hid (sameR bs bs = true) := Lib.hid (prints_same _)
  have e1 : ¬ (3000 : Int) < (s.size : Int) := by omega
  have e2 : ¬ (100 : Int) < (nm.size : Int) := by omega
  have e4 : ¬ 3000 < s.size := by omega
  have e5 : ¬ 100 < nm.size := by omega
  clear hN hP hsn hsp hG hE hbig hlens hln hlp hps
  obtain ⟨⟨a, e⟩, ha⟩ : ∃ V, printF r = V := ⟨_, rfl⟩
  obtain ⟨⟨pi, pb⟩, hpl⟩ : ∃ V, placeF r nm = V := ⟨_, rfl⟩
  obtain ⟨ck, hck⟩ : ∃ V, checkB r = V := ⟨_, rfl⟩
  obtain ⟨nb, hnb⟩ : ∃ V, nameB nm = V := ⟨_, rfl⟩
  rw [ha] at HPR
  rw [hpl] at HPL
  rw [hck] at HCK
  rw [hnb] at HNM HRN
  dsimp only at HPR HPL
  have HPRE := Lib.hid ha
  have HPLE := Lib.hid hpl
  have HCKE := Lib.hid hck
  clear ha hpl hck hnb
  unfold recV at HBI HRO HPR HPL HCK ⊢
  have Hw_0 : Hid (Below w.heap.size w (w.alloc (.cells #[.int .i64 r.epoch, .int .i64 r.k, .slice A n c, .slice A' m d] 24))) := Lib.hid (by go_grown)
  have Hr_0 : Hid (Below (w.alloc (.cells #[.int .i64 r.epoch, .int .i64 r.k, .slice A n c, .slice A' m d] 24)).heap.size (w.alloc (.cells #[.int .i64 r.epoch, .int .i64 r.k, .slice A n c, .slice A' m d] 24)) (w.alloc (.cells #[.int .i64 r.epoch, .int .i64 r.k, .slice A n c, .slice A' m d] 24))) := Lib.hid (Below.refl _ _)
  go_enter Tryd.func3, Tryd.ntmps3
  go_wp2_with fail
  refine (HBI.out _ Hw_0.out).mono ?_
  rintro e' w1 ⟨rfl, hb1⟩
  have Hw_1 := Lib.hid (Hw_0.out.trans (hb1.mono Hw_0.out.size))
  clear Hw_0
  have Hr_2 := Lib.hid (Hr_0.out.trans (hb1.mono Hr_0.out.size))
  clear Hr_0
  clear hb1 HBI
  have q0 := ((Blk.new w 24 #[.int .i64 r.epoch, .int .i64 r.k, .slice A n c, .slice A' m d]).below Hr_2.out (by simp)).cells 0 _ rfl
  have q1 := ((Blk.new w 24 #[.int .i64 r.epoch, .int .i64 r.k, .slice A n c, .slice A' m d]).below Hr_2.out (by simp)).cells 1 _ rfl
  have q2 := ((Blk.new w 24 #[.int .i64 r.epoch, .int .i64 r.k, .slice A n c, .slice A' m d]).below Hr_2.out (by simp)).cells 2 _ rfl
  have q3 := ((Blk.new w 24 #[.int .i64 r.epoch, .int .i64 r.k, .slice A n c, .slice A' m d]).below Hr_2.out (by simp)).cells 3 _ rfl
  simp only [List.getElem_toArray, List.getElem_cons_zero, List.getElem_cons_succ] at q0 q1 q2 q3
  go_wp2_with fail
  refine (HRO.out _ Hw_1.out).mono ?_
  rintro e' w2 ⟨A1, A2, c1, d1, rfl, hn1, hp1, hb2⟩
  have Hw_3 := Lib.hid (Hw_1.out.trans (hb2.mono Hw_1.out.size))
  clear Hw_1
  have Hr_4 := Lib.hid (Hr_2.out.trans (hb2.mono Hr_2.out.size))
  clear Hr_2
  have Hv_5 : Hid (Below w2.heap.size w2 w2) := Lib.hid (Below.refl _ _)
  have hN1 := srow_slr hn1.out HLN.out.1
  have hP1 := srow_slr hp1.out HLN.out.2
  have HRP := Lib.hid (fun W (hW : Below w2.heap.size w2 W) => rprint_any r A1 A2 n c1 m d1 W ((hN1.below hW).more hW.size) ((hP1.below hW).more hW.size) HSZ.out.1 HSZ.out.2)
  have HRL := Lib.hid (fun W (hW : Below w2.heap.size w2 W) => rplace_any r nm A1 A2 n c1 m d1 W ((hN1.below hW).more hW.size) ((hP1.below hW).more hW.size) HSZ.out.1 HSZ.out.2)
  have HRC := Lib.hid (fun W (hW : Below w2.heap.size w2 W) => rcheck_any r A1 A2 n c1 m d1 W ((hN1.below hW).more hW.size) ((hP1.below hW).more hW.size) HSZ.out.1 HSZ.out.2)
  have HSO := Lib.hid (fun W (hV : Below w.heap.size w W) (hW : Below w2.heap.size w2 W) => rsame_any r r A A' n c m d A1 A2 n c1 m d1 W ((HN.out.below hV).more hV.size) ((HP.out.below hV).more hV.size) ((hN1.below hW).more hW.size) ((hP1.below hW).more hW.size) (by omega) (by omega) (by omega) (by omega))
  rw [HPRE.out] at HRP
  rw [HPLE.out] at HRL
  rw [HCKE.out] at HRC
  rw [HS1.out] at HSO
  dsimp only at HRP HRL
  clear hb2 hn1 hp1 hN1 hP1 HRO q0 q1 q2 q3
  unfold recV at HRP HRL HRC HSO
  have Hw_6 : Hid (Below w.heap.size w (w2.alloc (.cells #[.int .i64 r.epoch, .int .i64 r.k, .slice A1 n c1, .slice A2 m d1] 24))) := Lib.hid (Hw_3.out.alloc Hw_3.out.size _)
  clear Hw_3
  have Hr_7 : Hid (Below (w.alloc (.cells #[.int .i64 r.epoch, .int .i64 r.k, .slice A n c, .slice A' m d] 24)).heap.size (w.alloc (.cells #[.int .i64 r.epoch, .int .i64 r.k, .slice A n c, .slice A' m d] 24)) (w2.alloc (.cells #[.int .i64 r.epoch, .int .i64 r.k, .slice A1 n c1, .slice A2 m d1] 24))) := Lib.hid (Hr_4.out.alloc Hr_4.out.size _)
  clear Hr_4
  have Hv_8 : Hid (Below w2.heap.size w2 (w2.alloc (.cells #[.int .i64 r.epoch, .int .i64 r.k, .slice A1 n c1, .slice A2 m d1] 24))) := Lib.hid (Hv_5.out.alloc Hv_5.out.size _)
  clear Hv_5
  have Ho_9 : Hid (Below (w2.alloc (.cells #[.int .i64 r.epoch, .int .i64 r.k, .slice A1 n c1, .slice A2 m d1] 24)).heap.size (w2.alloc (.cells #[.int .i64 r.epoch, .int .i64 r.k, .slice A1 n c1, .slice A2 m d1] 24)) (w2.alloc (.cells #[.int .i64 r.epoch, .int .i64 r.k, .slice A1 n c1, .slice A2 m d1] 24))) := Lib.hid (Below.refl _ _)
  have q0 := ((Blk.new w 24 #[.int .i64 r.epoch, .int .i64 r.k, .slice A n c, .slice A' m d]).below Hr_7.out (by simp)).cells 0 _ rfl
  have q1 := ((Blk.new w 24 #[.int .i64 r.epoch, .int .i64 r.k, .slice A n c, .slice A' m d]).below Hr_7.out (by simp)).cells 1 _ rfl
  have q2 := ((Blk.new w 24 #[.int .i64 r.epoch, .int .i64 r.k, .slice A n c, .slice A' m d]).below Hr_7.out (by simp)).cells 2 _ rfl
  have q3 := ((Blk.new w 24 #[.int .i64 r.epoch, .int .i64 r.k, .slice A n c, .slice A' m d]).below Hr_7.out (by simp)).cells 3 _ rfl
  simp only [List.getElem_toArray, List.getElem_cons_zero, List.getElem_cons_succ] at q0 q1 q2 q3
  go_wp2_with fail
  refine (HPR.out _ Hw_6.out).mono ?_
  rintro e' w3 ⟨rfl, hb3⟩
  have Hw_10 := Lib.hid (Hw_6.out.trans (hb3.mono Hw_6.out.size))
  clear Hw_6
  have Hr_11 := Lib.hid (Hr_7.out.trans (hb3.mono Hr_7.out.size))
  clear Hr_7
  have Hv_12 := Lib.hid (Hv_8.out.trans (hb3.mono Hv_8.out.size))
  clear Hv_8
  have Ho_13 := Lib.hid (Ho_9.out.trans (hb3.mono Ho_9.out.size))
  clear Ho_9
  clear hb3 q0 q1 q2 q3 HPR
  have p0 := ((Blk.new w2 24 #[.int .i64 r.epoch, .int .i64 r.k, .slice A1 n c1, .slice A2 m d1]).below Ho_13.out (by simp)).cells 0 _ rfl
  have p1 := ((Blk.new w2 24 #[.int .i64 r.epoch, .int .i64 r.k, .slice A1 n c1, .slice A2 m d1]).below Ho_13.out (by simp)).cells 1 _ rfl
  have p2 := ((Blk.new w2 24 #[.int .i64 r.epoch, .int .i64 r.k, .slice A1 n c1, .slice A2 m d1]).below Ho_13.out (by simp)).cells 2 _ rfl
  have p3 := ((Blk.new w2 24 #[.int .i64 r.epoch, .int .i64 r.k, .slice A1 n c1, .slice A2 m d1]).below Ho_13.out (by simp)).cells 3 _ rfl
  simp only [List.getElem_toArray, List.getElem_cons_zero, List.getElem_cons_succ] at p0 p1 p2 p3
  go_wp2_with fail
  refine (HRP.out _ Hv_12.out).mono ?_
  rintro e' w5 ⟨rfl, hb5⟩
  have Hw_14 := Lib.hid (Hw_10.out.trans (hb5.mono Hw_10.out.size))
  clear Hw_10
  have Hr_15 := Lib.hid (Hr_11.out.trans (hb5.mono Hr_11.out.size))
  clear Hr_11
  have Hv_16 := Lib.hid (Hv_12.out.trans (hb5.mono Hv_12.out.size))
  clear Hv_12
  have Ho_17 := Lib.hid (Ho_13.out.trans (hb5.mono Ho_13.out.size))
  clear Ho_13
  clear hb5 p0 p1 p2 p3 HRP
  have Kw := Hw_14
  have Kr := Hr_15
  have Kv := Hv_16
  have Ko := Ho_17
  have Hp_18 : Hid (Below w5.heap.size w5 w5) := Lib.hid (Below.refl _ _)
  go_wp2_with fail
  refine (HPS.out _ Hw_14.out).mono ?_
  rintro e' w6 ⟨A3, A3', n3, c3, d3, rfl, hn3, hp3, hl3, hm3, hb6⟩
  have Hw_19 := Lib.hid (Hw_14.out.trans (hb6.mono Hw_14.out.size))
  clear Hw_14
  have Hr_20 := Lib.hid (Hr_15.out.trans (hb6.mono Hr_15.out.size))
  clear Hr_15
  have Hv_21 := Lib.hid (Hv_16.out.trans (hb6.mono Hv_16.out.size))
  clear Hv_16
  have Ho_22 := Lib.hid (Ho_17.out.trans (hb6.mono Ho_17.out.size))
  clear Ho_17
  have Hp_23 := Lib.hid (Hp_18.out.trans (hb6.mono Hp_18.out.size))
  clear Hp_18
  have Hy_24 : Hid (Below w6.heap.size w6 w6) := Lib.hid (Below.refl _ _)
  have HX3 := Lib.hid (And.intro hn3.out (And.intro hp3.out (And.intro hl3 hm3)))
  have hn30 : n3 ≤ 30 := by have := HBSL.out.1; omega
  clear hb6 hn3 hp3 hl3 hm3 HPS
  have Hp6 := Hp_23
  unfold recV
  have Hw_25 : Hid (Below w.heap.size w (w6.alloc (.cells #[.int .i64 bs.epoch, .int .i64 bs.k, .slice A3 n3 c3, .slice A3' n3 d3] 24))) := Lib.hid (Hw_19.out.alloc Hw_19.out.size _)
  clear Hw_19
  have Hr_26 : Hid (Below (w.alloc (.cells #[.int .i64 r.epoch, .int .i64 r.k, .slice A n c, .slice A' m d] 24)).heap.size (w.alloc (.cells #[.int .i64 r.epoch, .int .i64 r.k, .slice A n c, .slice A' m d] 24)) (w6.alloc (.cells #[.int .i64 bs.epoch, .int .i64 bs.k, .slice A3 n3 c3, .slice A3' n3 d3] 24))) := Lib.hid (Hr_20.out.alloc Hr_20.out.size _)
  clear Hr_20
  have Hv_27 : Hid (Below w2.heap.size w2 (w6.alloc (.cells #[.int .i64 bs.epoch, .int .i64 bs.k, .slice A3 n3 c3, .slice A3' n3 d3] 24))) := Lib.hid (Hv_21.out.alloc Hv_21.out.size _)
  clear Hv_21
  have Ho_28 : Hid (Below (w2.alloc (.cells #[.int .i64 r.epoch, .int .i64 r.k, .slice A1 n c1, .slice A2 m d1] 24)).heap.size (w2.alloc (.cells #[.int .i64 r.epoch, .int .i64 r.k, .slice A1 n c1, .slice A2 m d1] 24)) (w6.alloc (.cells #[.int .i64 bs.epoch, .int .i64 bs.k, .slice A3 n3 c3, .slice A3' n3 d3] 24))) := Lib.hid (Ho_22.out.alloc Ho_22.out.size _)
  clear Ho_22
  have Hp_29 : Hid (Below w5.heap.size w5 (w6.alloc (.cells #[.int .i64 bs.epoch, .int .i64 bs.k, .slice A3 n3 c3, .slice A3' n3 d3] 24))) := Lib.hid (Hp_23.out.alloc Hp_23.out.size _)
  clear Hp_23
  have Hy_30 : Hid (Below w6.heap.size w6 (w6.alloc (.cells #[.int .i64 bs.epoch, .int .i64 bs.k, .slice A3 n3 c3, .slice A3' n3 d3] 24))) := Lib.hid (Hy_24.out.alloc Hy_24.out.size _)
  clear Hy_24
  have Hc_31 : Hid (Below (w6.alloc (.cells #[.int .i64 bs.epoch, .int .i64 bs.k, .slice A3 n3 c3, .slice A3' n3 d3] 24)).heap.size (w6.alloc (.cells #[.int .i64 bs.epoch, .int .i64 bs.k, .slice A3 n3 c3, .slice A3' n3 d3] 24)) (w6.alloc (.cells #[.int .i64 bs.epoch, .int .i64 bs.k, .slice A3 n3 c3, .slice A3' n3 d3] 24))) := Lib.hid (Below.refl _ _)
  go_wp2_with fail
  refine (HRS.out _).mono ?_
  rintro e' w7 ⟨A4, A4', n4, c4, d4, rfl, hn4, hp4, hl4, hm4, hb7⟩
  have Hw_32 := Lib.hid (Hw_25.out.trans (hb7.mono Hw_25.out.size))
  clear Hw_25
  have Hr_33 := Lib.hid (Hr_26.out.trans (hb7.mono Hr_26.out.size))
  clear Hr_26
  have Hv_34 := Lib.hid (Hv_27.out.trans (hb7.mono Hv_27.out.size))
  clear Hv_27
  have Ho_35 := Lib.hid (Ho_28.out.trans (hb7.mono Ho_28.out.size))
  clear Ho_28
  have Hp_36 := Lib.hid (Hp_29.out.trans (hb7.mono Hp_29.out.size))
  clear Hp_29
  have Hy_37 := Lib.hid (Hy_30.out.trans (hb7.mono Hy_30.out.size))
  clear Hy_30
  have Hc_38 := Lib.hid (Hc_31.out.trans (hb7.mono Hc_31.out.size))
  clear Hc_31
  have Hq_39 : Hid (Below w7.heap.size w7 w7) := Lib.hid (Below.refl _ _)
  have hn40 : n4 ≤ 30 := by have := HBSL.out.1; omega
  have HSC := Lib.hid (fun W (hV : Below w6.heap.size w6 W) (hW : Below w7.heap.size w7 W) => rsame_any bs bs A3 A3' n3 c3 n3 d3 A4 A4' n4 c4 n4 d4 W (((srow_slr HX3.out.1 HX3.out.2.2.1).below hV).more hV.size) (((srow_slr HX3.out.2.1 HX3.out.2.2.2).below hV).more hV.size) (((srow_slr hn4.out hl4).below hW).more hW.size) (((srow_slr hp4.out hm4).below hW).more hW.size) (by omega) (by omega) (by omega) (by omega))
  rw [HS2.out] at HSC
  clear hb7 hn4 hp4 hl4 hm4 HRS
  unfold recV at HSC ⊢
  have Hw_40 : Hid (Below w.heap.size w (w7.alloc (.cells #[.int .i64 bs.epoch, .int .i64 bs.k, .slice A4 n4 c4, .slice A4' n4 d4] 24))) := Lib.hid (Hw_32.out.alloc Hw_32.out.size _)
  clear Hw_32
  have Hr_41 : Hid (Below (w.alloc (.cells #[.int .i64 r.epoch, .int .i64 r.k, .slice A n c, .slice A' m d] 24)).heap.size (w.alloc (.cells #[.int .i64 r.epoch, .int .i64 r.k, .slice A n c, .slice A' m d] 24)) (w7.alloc (.cells #[.int .i64 bs.epoch, .int .i64 bs.k, .slice A4 n4 c4, .slice A4' n4 d4] 24))) := Lib.hid (Hr_33.out.alloc Hr_33.out.size _)
  clear Hr_33
  have Hv_42 : Hid (Below w2.heap.size w2 (w7.alloc (.cells #[.int .i64 bs.epoch, .int .i64 bs.k, .slice A4 n4 c4, .slice A4' n4 d4] 24))) := Lib.hid (Hv_34.out.alloc Hv_34.out.size _)
  clear Hv_34
  have Ho_43 : Hid (Below (w2.alloc (.cells #[.int .i64 r.epoch, .int .i64 r.k, .slice A1 n c1, .slice A2 m d1] 24)).heap.size (w2.alloc (.cells #[.int .i64 r.epoch, .int .i64 r.k, .slice A1 n c1, .slice A2 m d1] 24)) (w7.alloc (.cells #[.int .i64 bs.epoch, .int .i64 bs.k, .slice A4 n4 c4, .slice A4' n4 d4] 24))) := Lib.hid (Ho_35.out.alloc Ho_35.out.size _)
  clear Ho_35
  have Hp_44 : Hid (Below w5.heap.size w5 (w7.alloc (.cells #[.int .i64 bs.epoch, .int .i64 bs.k, .slice A4 n4 c4, .slice A4' n4 d4] 24))) := Lib.hid (Hp_36.out.alloc Hp_36.out.size _)
  clear Hp_36
  have Hy_45 : Hid (Below w6.heap.size w6 (w7.alloc (.cells #[.int .i64 bs.epoch, .int .i64 bs.k, .slice A4 n4 c4, .slice A4' n4 d4] 24))) := Lib.hid (Hy_37.out.alloc Hy_37.out.size _)
  clear Hy_37
  have Hc_46 : Hid (Below (w6.alloc (.cells #[.int .i64 bs.epoch, .int .i64 bs.k, .slice A3 n3 c3, .slice A3' n3 d3] 24)).heap.size (w6.alloc (.cells #[.int .i64 bs.epoch, .int .i64 bs.k, .slice A3 n3 c3, .slice A3' n3 d3] 24)) (w7.alloc (.cells #[.int .i64 bs.epoch, .int .i64 bs.k, .slice A4 n4 c4, .slice A4' n4 d4] 24))) := Lib.hid (Hc_38.out.alloc Hc_38.out.size _)
  clear Hc_38
  have Hq_47 : Hid (Below w7.heap.size w7 (w7.alloc (.cells #[.int .i64 bs.epoch, .int .i64 bs.k, .slice A4 n4 c4, .slice A4' n4 d4] 24))) := Lib.hid (Hq_39.out.alloc Hq_39.out.size _)
  clear Hq_39
  have He_48 : Hid (Below (w7.alloc (.cells #[.int .i64 bs.epoch, .int .i64 bs.k, .slice A4 n4 c4, .slice A4' n4 d4] 24)).heap.size (w7.alloc (.cells #[.int .i64 bs.epoch, .int .i64 bs.k, .slice A4 n4 c4, .slice A4' n4 d4] 24)) (w7.alloc (.cells #[.int .i64 bs.epoch, .int .i64 bs.k, .slice A4 n4 c4, .slice A4' n4 d4] 24))) := Lib.hid (Below.refl _ _)
  have q0 := ((Blk.new w 24 #[.int .i64 r.epoch, .int .i64 r.k, .slice A n c, .slice A' m d]).below Hr_41.out (by simp)).cells 0 _ rfl
  have q1 := ((Blk.new w 24 #[.int .i64 r.epoch, .int .i64 r.k, .slice A n c, .slice A' m d]).below Hr_41.out (by simp)).cells 1 _ rfl
  have q2 := ((Blk.new w 24 #[.int .i64 r.epoch, .int .i64 r.k, .slice A n c, .slice A' m d]).below Hr_41.out (by simp)).cells 2 _ rfl
  have q3 := ((Blk.new w 24 #[.int .i64 r.epoch, .int .i64 r.k, .slice A n c, .slice A' m d]).below Hr_41.out (by simp)).cells 3 _ rfl
  simp only [List.getElem_toArray, List.getElem_cons_zero, List.getElem_cons_succ] at q0 q1 q2 q3
  go_wp2_with fail
  refine (HPL.out _ Hw_40.out).mono ?_
  rintro e' w8 ⟨rfl, hb8⟩
  have Hw_49 := Lib.hid (Hw_40.out.trans (hb8.mono Hw_40.out.size))
  clear Hw_40
  have Hr_50 := Lib.hid (Hr_41.out.trans (hb8.mono Hr_41.out.size))
  clear Hr_41
  have Hv_51 := Lib.hid (Hv_42.out.trans (hb8.mono Hv_42.out.size))
  clear Hv_42
  have Ho_52 := Lib.hid (Ho_43.out.trans (hb8.mono Ho_43.out.size))
  clear Ho_43
  have Hp_53 := Lib.hid (Hp_44.out.trans (hb8.mono Hp_44.out.size))
  clear Hp_44
  have Hy_54 := Lib.hid (Hy_45.out.trans (hb8.mono Hy_45.out.size))
  clear Hy_45
  have Hc_55 := Lib.hid (Hc_46.out.trans (hb8.mono Hc_46.out.size))
  clear Hc_46
  have Hq_56 := Lib.hid (Hq_47.out.trans (hb8.mono Hq_47.out.size))
  clear Hq_47
  have He_57 := Lib.hid (He_48.out.trans (hb8.mono He_48.out.size))
  clear He_48
  clear hb8 q0 q1 q2 q3 HPL
  have p0 := ((Blk.new w2 24 #[.int .i64 r.epoch, .int .i64 r.k, .slice A1 n c1, .slice A2 m d1]).below Ho_52.out (by simp)).cells 0 _ rfl
  have p1 := ((Blk.new w2 24 #[.int .i64 r.epoch, .int .i64 r.k, .slice A1 n c1, .slice A2 m d1]).below Ho_52.out (by simp)).cells 1 _ rfl
  have p2 := ((Blk.new w2 24 #[.int .i64 r.epoch, .int .i64 r.k, .slice A1 n c1, .slice A2 m d1]).below Ho_52.out (by simp)).cells 2 _ rfl
  have p3 := ((Blk.new w2 24 #[.int .i64 r.epoch, .int .i64 r.k, .slice A1 n c1, .slice A2 m d1]).below Ho_52.out (by simp)).cells 3 _ rfl
  simp only [List.getElem_toArray, List.getElem_cons_zero, List.getElem_cons_succ] at p0 p1 p2 p3
  go_wp2_with fail
  refine (HRL.out _ Hv_51.out).mono ?_
  rintro e' w9 ⟨rfl, hb9⟩
  have Hw_58 := Lib.hid (Hw_49.out.trans (hb9.mono Hw_49.out.size))
  clear Hw_49
  have Hr_59 := Lib.hid (Hr_50.out.trans (hb9.mono Hr_50.out.size))
  clear Hr_50
  have Hv_60 := Lib.hid (Hv_51.out.trans (hb9.mono Hv_51.out.size))
  clear Hv_51
  have Ho_61 := Lib.hid (Ho_52.out.trans (hb9.mono Ho_52.out.size))
  clear Ho_52
  have Hp_62 := Lib.hid (Hp_53.out.trans (hb9.mono Hp_53.out.size))
  clear Hp_53
  have Hy_63 := Lib.hid (Hy_54.out.trans (hb9.mono Hy_54.out.size))
  clear Hy_54
  have Hc_64 := Lib.hid (Hc_55.out.trans (hb9.mono Hc_55.out.size))
  clear Hc_55
  have Hq_65 := Lib.hid (Hq_56.out.trans (hb9.mono Hq_56.out.size))
  clear Hq_56
  have He_66 := Lib.hid (He_57.out.trans (hb9.mono He_57.out.size))
  clear He_57
  clear hb9 p0 p1 p2 p3 HRL
  have HBR := Lib.hid ((Blk.new w 24 #[.int .i64 r.epoch, .int .i64 r.k, .slice A n c, .slice A' m d]).below Hr_59.out (by simp))
  have HBO := Lib.hid ((Blk.new w2 24 #[.int .i64 r.epoch, .int .i64 r.k, .slice A1 n c1, .slice A2 m d1]).below Ho_61.out (by simp))
  have HBC := Lib.hid ((Blk.new w6 24 #[.int .i64 bs.epoch, .int .i64 bs.k, .slice A3 n3 c3, .slice A3' n3 d3]).below Hc_64.out (by simp))
  have HBE := Lib.hid ((Blk.new w7 24 #[.int .i64 bs.epoch, .int .i64 bs.k, .slice A4 n4 c4, .slice A4' n4 d4]).below He_66.out (by simp))
  go_wp2_with fail
  refine wp_region_held_drew (S := fun W => Below w9.heap.size w9 W) (by kernel_rfl) (Still.below (Still.drew _)) (fun hHeld => ?_)
  refine wpAnyH_take (i := 0) (v := ?v1) rfl (by kernel_rfl) (by kernel_rfl) (by kernel_rfl) (fun _ _ _ h => h) (Or.inl ⟨by rfl, ?hy1⟩) hHeld ?rest1
  case hy1 => (intro w hSw; (try dsimp only at hSw); go_simp; try with_reducible rfl)
  try simp only [Act.put, List.getElem_toArray, List.getElem_cons_succ, List.getElem_cons_zero, List.setIfInBounds_toArray, List.set_cons_zero, List.set_cons_succ]
  refine wpAnyH_take (i := 1) (v := ?v2) rfl (by kernel_rfl) (by kernel_rfl) (by kernel_rfl) (fun _ _ _ h => h) (Or.inl ⟨by rfl, ?hy2⟩) hHeld ?rest2
  case hy2 => (intro w hSw; (try dsimp only at hSw); go_simp; try with_reducible rfl)
  try simp only [Act.put, List.getElem_toArray, List.getElem_cons_succ, List.getElem_cons_zero, List.setIfInBounds_toArray, List.set_cons_zero, List.set_cons_succ]
  refine wpAnyH_take (i := 2) (v := ?v3) rfl (by kernel_rfl) (by kernel_rfl) (by kernel_rfl) (fun _ _ _ h => h) (Or.inl ⟨by rfl, ?hy3⟩) hHeld ?rest3
  case hy3 => (intro w hSw; (try dsimp only at hSw); go_simp; try with_reducible rfl)
  try simp only [Act.put, List.getElem_toArray, List.getElem_cons_succ, List.getElem_cons_zero, List.setIfInBounds_toArray, List.set_cons_zero, List.set_cons_succ]
  refine wpAnyH_take (i := 3) (v := ?v4) rfl (by kernel_rfl) (by kernel_rfl) (by kernel_rfl) (fun _ _ _ h => h) (Or.inl ⟨by rfl, ?hy4⟩) hHeld ?rest4
  case hy4 => (intro w hSw; (try dsimp only at hSw); go_simp; try with_reducible rfl)
  try simp only [Act.put, List.getElem_toArray, List.getElem_cons_succ, List.getElem_cons_zero, List.setIfInBounds_toArray, List.set_cons_zero, List.set_cons_succ]
  refine wpAnyH_take (i := 4) (v := ?v5) rfl (by kernel_rfl) (by kernel_rfl) (by kernel_rfl) (fun _ _ _ h => h) (Or.inl ⟨by rfl, ?hy5⟩) hHeld ?rest5
  case hy5 => (intro w hSw; (try dsimp only at hSw); go_simp; try with_reducible rfl)
  try simp only [Act.put, List.getElem_toArray, List.getElem_cons_succ, List.getElem_cons_zero, List.setIfInBounds_toArray, List.set_cons_zero, List.set_cons_succ]
  refine wpAnyH_take (i := 5) (v := ?v6) rfl (by kernel_rfl) (by kernel_rfl) (by kernel_rfl) (fun _ _ _ h => h) (Or.inl ⟨by rfl, ?hy6⟩) hHeld ?rest6
  case hy6 => (intro w hSw; (try dsimp only at hSw); go_simp; try with_reducible rfl)
  try simp only [Act.put, List.getElem_toArray, List.getElem_cons_succ, List.getElem_cons_zero, List.setIfInBounds_toArray, List.set_cons_zero, List.set_cons_succ]
  refine wpAnyH_take (i := 6) (v := ?v7) rfl (by kernel_rfl) (by kernel_rfl) (by kernel_rfl) (fun _ _ _ h => h) (Or.inl ⟨by rfl, ?hy7⟩) hHeld ?rest7
  case hy7 => (intro w hSw; (try dsimp only at hSw); go_simp; try with_reducible rfl)
  try simp only [Act.put, List.getElem_toArray, List.getElem_cons_succ, List.getElem_cons_zero, List.setIfInBounds_toArray, List.set_cons_zero, List.set_cons_succ]
  refine wpAnyH_take (i := 7) (v := ?v8) rfl (by kernel_rfl) (by kernel_rfl) (by kernel_rfl) (fun _ _ _ h => h) (Or.inl ⟨by rfl, ?hy8⟩) hHeld ?rest8
  case hy8 => (intro w hSw; (try dsimp only at hSw); go_simp; try with_reducible rfl)
  try simp only [Act.put, List.getElem_toArray, List.getElem_cons_succ, List.getElem_cons_zero, List.setIfInBounds_toArray, List.set_cons_zero, List.set_cons_succ]
  refine wpAnyH_take (i := 8) (v := ?v9) rfl (by kernel_rfl) (by kernel_rfl) (by kernel_rfl) (fun _ _ _ h => h) (Or.inl ⟨by rfl, ?hy9⟩) hHeld ?rest9
  case hy9 => (intro w hSw; (try dsimp only at hSw); go_simp; try with_reducible rfl)
  try simp only [Act.put, List.getElem_toArray, List.getElem_cons_succ, List.getElem_cons_zero, List.setIfInBounds_toArray, List.set_cons_zero, List.set_cons_succ]
  refine wpAnyH_take (i := 9) (v := (.agg #[.int .i64 bs.epoch, .int .i64 bs.k, .slice A3 n3 c3, .slice A3' n3 d3])) rfl (by kernel_rfl) (by kernel_rfl) (by kernel_rfl) (fun _ _ _ h => h) (yields_rowg 24 (.tmp 12) rfl rfl _ rfl 24 #[.int .i64 bs.epoch, .int .i64 bs.k, .slice A3 n3 c3, .slice A3' n3 d3] _ Tryd.underlying24 rfl (by kernel_rfl) (fun W hW => Blk.below HBC.out hW HBC.out.lt)) hHeld ?rest10
  try simp only [Act.put, List.getElem_toArray, List.getElem_cons_succ, List.getElem_cons_zero, List.setIfInBounds_toArray, List.set_cons_zero, List.set_cons_succ]
  refine wpAnyH_take (i := 10) (v := (.agg #[.int .i64 bs.epoch, .int .i64 bs.k, .slice A4 n4 c4, .slice A4' n4 d4])) rfl (by kernel_rfl) (by kernel_rfl) (by kernel_rfl) (fun _ _ _ h => h) (yields_rowg 24 (.tmp 14) rfl rfl _ rfl 24 #[.int .i64 bs.epoch, .int .i64 bs.k, .slice A4 n4 c4, .slice A4' n4 d4] _ Tryd.underlying24 rfl (by kernel_rfl) (fun W hW => Blk.below HBE.out hW HBE.out.lt)) hHeld ?rest11
  try simp only [Act.put, List.getElem_toArray, List.getElem_cons_succ, List.getElem_cons_zero, List.setIfInBounds_toArray, List.set_cons_zero, List.set_cons_succ]
  refine wpAnyH_ready (rs := [11]) (by kernel_rfl) (by simp) ?_
  refine AllReadyH.cons rfl (fun K hK => ?_) AllReadyH.nil
  have hPrev := Lib.hid hHeld
  clear hHeld
  go_simp
  refine (HSC.out _ (Hy_63.out.trans (hPrev.out.mono Hy_63.out.size)) (Hq_65.out.trans (hPrev.out.mono Hq_65.out.size))).mono ?_
  rintro e' wa ⟨rfl, hba⟩
  go_simp
  refine hK.out _ _ (hPrev.out.trans (hba.mono hPrev.out.size)) (fun hHeld => ?_)
  clear hK K hPrev
  try simp only [Act.put, List.getElem_toArray, List.getElem_cons_succ, List.getElem_cons_zero, List.setIfInBounds_toArray, List.set_cons_zero, List.set_cons_succ]
  refine wpAnyH_take (i := 12) (v := ?v13) rfl (by kernel_rfl) (by kernel_rfl) (by kernel_rfl) (fun _ _ _ h => h) (Or.inl ⟨by rfl, ?hy13⟩) hHeld ?rest13
  case hy13 => (intro w hSw; (try dsimp only at hSw); go_simp; try with_reducible rfl)
  try simp only [Act.put, List.getElem_toArray, List.getElem_cons_succ, List.getElem_cons_zero, List.setIfInBounds_toArray, List.set_cons_zero, List.set_cons_succ]
  refine wpAnyH_take (i := 13) (v := ?v14) rfl (by kernel_rfl) (by kernel_rfl) (by kernel_rfl) (fun _ _ _ h => h) (Or.inl ⟨by rfl, ?hy14⟩) hHeld ?rest14
  case hy14 => (intro w hSw; (try dsimp only at hSw); go_simp; try with_reducible rfl)
  try simp only [Act.put, List.getElem_toArray, List.getElem_cons_succ, List.getElem_cons_zero, List.setIfInBounds_toArray, List.set_cons_zero, List.set_cons_succ]
  refine wpAnyH_take (i := 14) (v := ?v15) rfl (by kernel_rfl) (by kernel_rfl) (by kernel_rfl) (fun _ _ _ h => h) (Or.inl ⟨by rfl, ?hy15⟩) hHeld ?rest15
  case hy15 => (intro w hSw; (try dsimp only at hSw); go_simp; try with_reducible rfl)
  try simp only [Act.put, List.getElem_toArray, List.getElem_cons_succ, List.getElem_cons_zero, List.setIfInBounds_toArray, List.set_cons_zero, List.set_cons_succ]
  refine wpAnyH_take (i := 15) (v := ?v16) rfl (by kernel_rfl) (by kernel_rfl) (by kernel_rfl) (fun _ _ _ h => h) (Or.inl ⟨by rfl, ?hy16⟩) hHeld ?rest16
  case hy16 => (intro w hSw; (try dsimp only at hSw); go_simp; try with_reducible rfl)
  try simp only [Act.put, List.getElem_toArray, List.getElem_cons_succ, List.getElem_cons_zero, List.setIfInBounds_toArray, List.set_cons_zero, List.set_cons_succ]
  refine wpAnyH_take (i := 16) (v := ?v17) rfl (by kernel_rfl) (by kernel_rfl) (by kernel_rfl) (fun _ _ _ h => h) (Or.inl ⟨by rfl, ?hy17⟩) hHeld ?rest17
  case hy17 => (intro w hSw; (try dsimp only at hSw); go_simp; try with_reducible rfl)
  try simp only [Act.put, List.getElem_toArray, List.getElem_cons_succ, List.getElem_cons_zero, List.setIfInBounds_toArray, List.set_cons_zero, List.set_cons_succ]
  refine wpAnyH_take (i := 17) (v := ?v18) rfl (by kernel_rfl) (by kernel_rfl) (by kernel_rfl) (fun _ _ _ h => h) (Or.inl ⟨by rfl, ?hy18⟩) hHeld ?rest18
  case hy18 => (intro w hSw; (try dsimp only at hSw); go_simp; try with_reducible rfl)
  try simp only [Act.put, List.getElem_toArray, List.getElem_cons_succ, List.getElem_cons_zero, List.setIfInBounds_toArray, List.set_cons_zero, List.set_cons_succ]
  refine wpAnyH_take (i := 18) (v := ?v19) rfl (by kernel_rfl) (by kernel_rfl) (by kernel_rfl) (fun _ _ _ h => h) (Or.inl ⟨by rfl, ?hy19⟩) hHeld ?rest19
  case hy19 => (intro w hSw; (try dsimp only at hSw); go_simp; try with_reducible rfl)
  try simp only [Act.put, List.getElem_toArray, List.getElem_cons_succ, List.getElem_cons_zero, List.setIfInBounds_toArray, List.set_cons_zero, List.set_cons_succ]
  refine wpAnyH_take (i := 19) (v := ?v20) rfl (by kernel_rfl) (by kernel_rfl) (by kernel_rfl) (fun _ _ _ h => h) (Or.inl ⟨by rfl, ?hy20⟩) hHeld ?rest20
  case hy20 => (intro w hSw; (try dsimp only at hSw); go_simp; try with_reducible rfl)
  try simp only [Act.put, List.getElem_toArray, List.getElem_cons_succ, List.getElem_cons_zero, List.setIfInBounds_toArray, List.set_cons_zero, List.set_cons_succ]
  refine wpAnyH_take (i := 20) (v := ?v21) rfl (by kernel_rfl) (by kernel_rfl) (by kernel_rfl) (fun _ _ _ h => h) (Or.inl ⟨by rfl, ?hy21⟩) hHeld ?rest21
  case hy21 => (intro w hSw; (try dsimp only at hSw); go_simp; try with_reducible rfl)
  try simp only [Act.put, List.getElem_toArray, List.getElem_cons_succ, List.getElem_cons_zero, List.setIfInBounds_toArray, List.set_cons_zero, List.set_cons_succ]
  refine wpAnyH_take (i := 21) (v := ?v22) rfl (by kernel_rfl) (by kernel_rfl) (by kernel_rfl) (fun _ _ _ h => h) (Or.inl ⟨by rfl, ?hy22⟩) hHeld ?rest22
  case hy22 => (intro w hSw; (try dsimp only at hSw); go_simp; try with_reducible rfl)
  try simp only [Act.put, List.getElem_toArray, List.getElem_cons_succ, List.getElem_cons_zero, List.setIfInBounds_toArray, List.set_cons_zero, List.set_cons_succ]
  refine wpAnyH_take (i := 22) (v := ?v23) rfl (by kernel_rfl) (by kernel_rfl) (by kernel_rfl) (fun _ _ _ h => h) (Or.inl ⟨by rfl, ?hy23⟩) hHeld ?rest23
  case hy23 => (intro w hSw; (try dsimp only at hSw); go_simp; try with_reducible rfl)
  try simp only [Act.put, List.getElem_toArray, List.getElem_cons_succ, List.getElem_cons_zero, List.setIfInBounds_toArray, List.set_cons_zero, List.set_cons_succ]
  refine wpAnyH_take (i := 23) (v := ?v24) rfl (by kernel_rfl) (by kernel_rfl) (by kernel_rfl) (fun _ _ _ h => h) (Or.inl ⟨by rfl, ?hy24⟩) hHeld ?rest24
  case hy24 => (intro w hSw; (try dsimp only at hSw); go_simp; try with_reducible rfl)
  try simp only [Act.put, List.getElem_toArray, List.getElem_cons_succ, List.getElem_cons_zero, List.setIfInBounds_toArray, List.set_cons_zero, List.set_cons_succ]
  refine wpAnyH_take (i := 24) (v := ?v25) rfl (by kernel_rfl) (by kernel_rfl) (by kernel_rfl) (fun _ _ _ h => h) (Or.inl ⟨by rfl, ?hy25⟩) hHeld ?rest25
  case hy25 => (intro w hSw; (try dsimp only at hSw); go_simp; try with_reducible rfl)
  try simp only [Act.put, List.getElem_toArray, List.getElem_cons_succ, List.getElem_cons_zero, List.setIfInBounds_toArray, List.set_cons_zero, List.set_cons_succ]
  refine wpAnyH_take (i := 25) (v := ?v26) rfl (by kernel_rfl) (by kernel_rfl) (by kernel_rfl) (fun _ _ _ h => h) (Or.inl ⟨by rfl, ?hy26⟩) hHeld ?rest26
  case hy26 => (intro w hSw; (try dsimp only at hSw); go_simp; try with_reducible rfl)
  try simp only [Act.put, List.getElem_toArray, List.getElem_cons_succ, List.getElem_cons_zero, List.setIfInBounds_toArray, List.set_cons_zero, List.set_cons_succ]
  refine wpAnyH_take (i := 26) (v := ?v27) rfl (by kernel_rfl) (by kernel_rfl) (by kernel_rfl) (fun _ _ _ h => h) (Or.inl ⟨by rfl, ?hy27⟩) hHeld ?rest27
  case hy27 => (intro w hSw; (try dsimp only at hSw); go_simp; try with_reducible rfl)
  try simp only [Act.put, List.getElem_toArray, List.getElem_cons_succ, List.getElem_cons_zero, List.setIfInBounds_toArray, List.set_cons_zero, List.set_cons_succ]
  refine wpAnyH_take (i := 27) (v := ?v28) rfl (by kernel_rfl) (by kernel_rfl) (by kernel_rfl) (fun _ _ _ h => h) (Or.inl ⟨by rfl, ?hy28⟩) hHeld ?rest28
  case hy28 => (intro w hSw; (try dsimp only at hSw); go_simp; try with_reducible rfl)
  try simp only [Act.put, List.getElem_toArray, List.getElem_cons_succ, List.getElem_cons_zero, List.setIfInBounds_toArray, List.set_cons_zero, List.set_cons_succ]
  refine wpAnyH_take (i := 28) (v := ?v29) rfl (by kernel_rfl) (by kernel_rfl) (by kernel_rfl) (fun _ _ _ h => h) (Or.inl ⟨by rfl, ?hy29⟩) hHeld ?rest29
  case hy29 => (intro w hSw; (try dsimp only at hSw); go_simp; try with_reducible rfl)
  try simp only [Act.put, List.getElem_toArray, List.getElem_cons_succ, List.getElem_cons_zero, List.setIfInBounds_toArray, List.set_cons_zero, List.set_cons_succ]
  refine wpAnyH_take (i := 29) (v := (.agg #[.int .i64 r.epoch, .int .i64 r.k, .slice A n c, .slice A' m d])) rfl (by kernel_rfl) (by kernel_rfl) (by kernel_rfl) (fun _ _ _ h => h) (yields_rowg 24 (.tmp 3) rfl rfl _ rfl 24 #[.int .i64 r.epoch, .int .i64 r.k, .slice A n c, .slice A' m d] _ Tryd.underlying24 rfl (by kernel_rfl) (fun W hW => Blk.below HBR.out hW HBR.out.lt)) hHeld ?rest30
  try simp only [Act.put, List.getElem_toArray, List.getElem_cons_succ, List.getElem_cons_zero, List.setIfInBounds_toArray, List.set_cons_zero, List.set_cons_succ]
  refine wpAnyH_take (i := 31) (v := (.agg #[.int .i64 r.epoch, .int .i64 r.k, .slice A1 n c1, .slice A2 m d1])) rfl (by kernel_rfl) (by kernel_rfl) (by kernel_rfl) (fun _ _ _ h => h) (yields_rowg 24 (.tmp 7) rfl rfl _ rfl 24 #[.int .i64 r.epoch, .int .i64 r.k, .slice A1 n c1, .slice A2 m d1] _ Tryd.underlying24 rfl (by kernel_rfl) (fun W hW => Blk.below HBO.out hW HBO.out.lt)) hHeld ?rest31
  try simp only [Act.put, List.getElem_toArray, List.getElem_cons_succ, List.getElem_cons_zero, List.setIfInBounds_toArray, List.set_cons_zero, List.set_cons_succ]
  refine wpAnyH_ready (rs := [30]) (by kernel_rfl) (by simp) ?_
  refine AllReadyH.cons rfl (fun K hK => ?_) AllReadyH.nil
  have hPrev := Lib.hid hHeld
  clear hHeld
  go_simp
  refine (HCK.out _ (Hw_58.out.trans (hPrev.out.mono Hw_58.out.size))).mono ?_
  rintro e' wb ⟨rfl, hbb⟩
  go_simp
  refine hK.out _ _ (hPrev.out.trans (hbb.mono hPrev.out.size)) (fun hHeld => ?_)
  clear hK K hPrev
  try simp only [Act.put, List.getElem_toArray, List.getElem_cons_succ, List.getElem_cons_zero, List.setIfInBounds_toArray, List.set_cons_zero, List.set_cons_succ]
  refine wpAnyH_ready (rs := [32]) (by kernel_rfl) (by simp) ?_
  refine AllReadyH.cons rfl (fun K hK => ?_) AllReadyH.nil
  have hPrev := Lib.hid hHeld
  clear hHeld
  go_simp
  refine (HRC.out _ (Hv_60.out.trans (hPrev.out.mono Hv_60.out.size))).mono ?_
  rintro e' wc ⟨rfl, hbc⟩
  go_simp
  refine hK.out _ _ (hPrev.out.trans (hbc.mono hPrev.out.size)) (fun hHeld => ?_)
  clear hK K hPrev
  try simp only [Act.put, List.getElem_toArray, List.getElem_cons_succ, List.getElem_cons_zero, List.setIfInBounds_toArray, List.set_cons_zero, List.set_cons_succ]
  refine wpAnyH_take (i := 33) (v := ?v34) rfl (by kernel_rfl) (by kernel_rfl) (by kernel_rfl) (fun _ _ _ h => h) (Or.inl ⟨by rfl, ?hy34⟩) hHeld ?rest34
  case hy34 => (intro w hSw; (try dsimp only at hSw); go_simp; try with_reducible rfl)
  try simp only [Act.put, List.getElem_toArray, List.getElem_cons_succ, List.getElem_cons_zero, List.setIfInBounds_toArray, List.set_cons_zero, List.set_cons_succ]
  refine wpAnyH_take (i := 34) (v := ?v35) rfl (by kernel_rfl) (by kernel_rfl) (by kernel_rfl) (fun _ _ _ h => h) (Or.inl ⟨by rfl, ?hy35⟩) hHeld ?rest35
  case hy35 => (intro w hSw; (try dsimp only at hSw); go_simp; try with_reducible rfl)
  try simp only [Act.put, List.getElem_toArray, List.getElem_cons_succ, List.getElem_cons_zero, List.setIfInBounds_toArray, List.set_cons_zero, List.set_cons_succ]
  refine wpAnyH_take (i := 35) (v := ?v36) rfl (by kernel_rfl) (by kernel_rfl) (by kernel_rfl) (fun _ _ _ h => h) (Or.inl ⟨by rfl, ?hy36⟩) hHeld ?rest36
  case hy36 => (intro w hSw; (try dsimp only at hSw); go_simp; try with_reducible rfl)
  try simp only [Act.put, List.getElem_toArray, List.getElem_cons_succ, List.getElem_cons_zero, List.setIfInBounds_toArray, List.set_cons_zero, List.set_cons_succ]
  refine wpAnyH_take (i := 36) (v := ?v37) rfl (by kernel_rfl) (by kernel_rfl) (by kernel_rfl) (fun _ _ _ h => h) (Or.inl ⟨by rfl, ?hy37⟩) hHeld ?rest37
  case hy37 => (intro w hSw; (try dsimp only at hSw); go_simp; try with_reducible rfl)
  try simp only [Act.put, List.getElem_toArray, List.getElem_cons_succ, List.getElem_cons_zero, List.setIfInBounds_toArray, List.set_cons_zero, List.set_cons_succ]
  refine wpAnyH_take (i := 38) (v := ?v38) rfl (by kernel_rfl) (by kernel_rfl) (by kernel_rfl) (fun _ _ _ h => h) (Or.inl ⟨by rfl, ?hy38⟩) hHeld ?rest38
  case hy38 => (intro w hSw; (try dsimp only at hSw); go_simp; try with_reducible rfl)
  try simp only [Act.put, List.getElem_toArray, List.getElem_cons_succ, List.getElem_cons_zero, List.setIfInBounds_toArray, List.set_cons_zero, List.set_cons_succ]
  refine wpAnyH_ready (rs := [37]) (by kernel_rfl) (by simp) ?_
  refine AllReadyH.cons rfl (fun K hK => ?_) AllReadyH.nil
  have hPrev := Lib.hid hHeld
  clear hHeld
  go_simp
  refine (HNM.out _).mono ?_
  rintro e' wd ⟨rfl, rfl⟩
  go_simp
  refine hK.out _ _ (hPrev.out) (fun hHeld => ?_)
  clear hK K hPrev
  try simp only [Act.put, List.getElem_toArray, List.getElem_cons_succ, List.getElem_cons_zero, List.setIfInBounds_toArray, List.set_cons_zero, List.set_cons_succ]
  refine wpAnyH_ready (rs := [39]) (by kernel_rfl) (by simp) ?_
  refine AllReadyH.cons rfl (fun K hK => ?_) AllReadyH.nil
  have hPrev := Lib.hid hHeld
  clear hHeld
  go_simp
  refine (HRN.out _).mono ?_
  rintro e' we ⟨rfl, rfl⟩
  go_simp
  refine hK.out _ _ (hPrev.out) (fun hHeld => ?_)
  clear hK K hPrev
  try simp only [Act.put, List.getElem_toArray, List.getElem_cons_succ, List.getElem_cons_zero, List.setIfInBounds_toArray, List.set_cons_zero, List.set_cons_succ]
  refine wpAnyH_take (i := 40) (v := ?v41) rfl (by kernel_rfl) (by kernel_rfl) (by kernel_rfl) (fun _ _ _ h => h) (Or.inl ⟨by rfl, ?hy41⟩) hHeld ?rest41
  case hy41 => (intro w hSw; (try dsimp only at hSw); go_simp; try with_reducible rfl)
  try simp only [Act.put, List.getElem_toArray, List.getElem_cons_succ, List.getElem_cons_zero, List.setIfInBounds_toArray, List.set_cons_zero, List.set_cons_succ]
  refine wpAnyH_take (i := 41) (v := ?v42) rfl (by kernel_rfl) (by kernel_rfl) (by kernel_rfl) (fun _ _ _ h => h) (Or.inl ⟨by rfl, ?hy42⟩) hHeld ?rest42
  case hy42 => (intro w hSw; (try dsimp only at hSw); go_simp; try with_reducible rfl)
  try simp only [Act.put, List.getElem_toArray, List.getElem_cons_succ, List.getElem_cons_zero, List.setIfInBounds_toArray, List.set_cons_zero, List.set_cons_succ]
  refine wpAnyH_take (i := 42) (v := ?v43) rfl (by kernel_rfl) (by kernel_rfl) (by kernel_rfl) (fun _ _ _ h => h) (Or.inl ⟨by rfl, ?hy43⟩) hHeld ?rest43
  case hy43 => (intro w hSw; (try dsimp only at hSw); go_simp; try with_reducible rfl)
  try simp only [Act.put, List.getElem_toArray, List.getElem_cons_succ, List.getElem_cons_zero, List.setIfInBounds_toArray, List.set_cons_zero, List.set_cons_succ]
  refine wpAnyH_done (by kernel_rfl) ?_ _
  have hH : Below w9.heap.size w9 wc := hHeld
  clear hHeld
  have Hw_67 := Lib.hid (Hw_58.out.trans (hH.mono Hw_58.out.size))
  clear Hw_58
  have Hr_68 := Lib.hid (Hr_59.out.trans (hH.mono Hr_59.out.size))
  clear Hr_59
  have Hv_69 := Lib.hid (Hv_60.out.trans (hH.mono Hv_60.out.size))
  clear Hv_60
  have Ho_70 := Lib.hid (Ho_61.out.trans (hH.mono Ho_61.out.size))
  clear Ho_61
  have Hp_71 := Lib.hid (Hp_62.out.trans (hH.mono Hp_62.out.size))
  clear Hp_62
  have Hy_72 := Lib.hid (Hy_63.out.trans (hH.mono Hy_63.out.size))
  clear Hy_63
  have Hc_73 := Lib.hid (Hc_64.out.trans (hH.mono Hc_64.out.size))
  clear Hc_64
  have Hq_74 := Lib.hid (Hq_65.out.trans (hH.mono Hq_65.out.size))
  clear Hq_65
  have He_75 := Lib.hid (He_66.out.trans (hH.mono He_66.out.size))
  clear He_66
  have hsm : SmuAt wc w5.heap.size w6.heap.size #[.int .i64 bs.epoch, .int .i64 bs.k, .slice A3 n3 c3, .slice A3' n3 d3] A3 n3 := smu_start HX3.out.1 HX3.out.2.2.1 Hy_72.out (HBC.out.below hH HBC.out.lt) (by exact Hp6.out.size)
  have HSM := Lib.hid hsm
  clear hsm hH HBC HBE HBR HBO HSC HCK HRC HNM HRN HX3
  go_wp2_with fail
  go_loopw [21] (fun iv wr => ∃ j : Nat, j ≤ n3 ∧ iv = .int .i64 j ∧ Hid (Below w5.heap.size w5 wr) ∧ Hid (SmuAt wr w5.heap.size w6.heap.size #[.int .i64 bs.epoch, .int .i64 bs.k, .slice A3 n3 c3, .slice A3' n3 d3] A3 n3)) (fun iv _ => n3 - (intOf iv).toNat)
  case atStart => exact ⟨0, by omega, rfl, Hp_71, HSM⟩
  case round =>
    obtain ⟨j, hj, rfl, HBJ, HSJ⟩ := hrel
    clear HSM
    have q2 := HSJ.out.1.cells 2 _ rfl
    simp only [List.getElem_toArray, List.getElem_cons_zero, List.getElem_cons_succ] at q2
    by_cases hlt : j < n3
    · obtain ⟨g0, cs, hA, hg0, hcs, hk⟩ := HSJ.out.2.2.resolve_left (by omega)
      subst hA
      have hq := hk.cells j _ (Array.getElem?_eq_getElem (show j < cs.size by omega))
      have hf := hk.frozen
      have hl := hk.lt
      have i0 : (0 : Int) ≤ (j : Int) := by omega
      have i1 : (j : Int) < (n3 : Int) := by omega
      generalize cs[j] = u at hq
      have HK := Lib.hid hk
      clear hk
      go_wp2_with fail
      go_roundw
      case rel => exact ⟨j + 1, by omega, by go_num, Lib.hid (HBJ.out.setCell hg0 _), Lib.hid (HSJ.out.put HK.out hcs j _)⟩
      case measure => simp [intOf]; omega
    · have i1 : ¬ (j : Int) < (n3 : Int) := by omega
      have Jw := Lib.hid (Kw.out.trans (HBJ.out.mono Kw.out.size))
      have Jv := Lib.hid (Kv.out.trans (HBJ.out.mono Kv.out.size))
      have Jr := Lib.hid (Kr.out.trans (HBJ.out.mono Kr.out.size))
      have Jo := Lib.hid (Ko.out.trans (HBJ.out.mono Ko.out.size))
      clear Kw Kv Kr Ko
      go_wp2_with fail
      refine (HME.out _ Jw.out).mono ?_
      rintro e' wm ⟨rfl, hbm⟩
      have Mw := Lib.hid (Jw.out.trans (hbm.mono Jw.out.size))
      have Mv := Lib.hid (Jv.out.trans (hbm.mono Jv.out.size))
      have Mr := Lib.hid (Jr.out.trans (hbm.mono Jr.out.size))
      have Mo := Lib.hid (Jo.out.trans (hbm.mono Jo.out.size))
      clear Jw Jv Jr Jo hbm
      have q0 := ((Blk.new w 24 #[.int .i64 r.epoch, .int .i64 r.k, .slice A n c, .slice A' m d]).below Mr.out (by simp)).cells 0 _ rfl
      have q1 := ((Blk.new w 24 #[.int .i64 r.epoch, .int .i64 r.k, .slice A n c, .slice A' m d]).below Mr.out (by simp)).cells 1 _ rfl
      have q2 := ((Blk.new w 24 #[.int .i64 r.epoch, .int .i64 r.k, .slice A n c, .slice A' m d]).below Mr.out (by simp)).cells 2 _ rfl
      have q3 := ((Blk.new w 24 #[.int .i64 r.epoch, .int .i64 r.k, .slice A n c, .slice A' m d]).below Mr.out (by simp)).cells 3 _ rfl
      simp only [List.getElem_toArray, List.getElem_cons_zero, List.getElem_cons_succ] at q0 q1 q2 q3
      have p0 := ((Blk.new w2 24 #[.int .i64 r.epoch, .int .i64 r.k, .slice A1 n c1, .slice A2 m d1]).below Mo.out (by simp)).cells 0 _ rfl
      have p1 := ((Blk.new w2 24 #[.int .i64 r.epoch, .int .i64 r.k, .slice A1 n c1, .slice A2 m d1]).below Mo.out (by simp)).cells 1 _ rfl
      have p2 := ((Blk.new w2 24 #[.int .i64 r.epoch, .int .i64 r.k, .slice A1 n c1, .slice A2 m d1]).below Mo.out (by simp)).cells 2 _ rfl
      have p3 := ((Blk.new w2 24 #[.int .i64 r.epoch, .int .i64 r.k, .slice A1 n c1, .slice A2 m d1]).below Mo.out (by simp)).cells 3 _ rfl
      simp only [List.getElem_toArray, List.getElem_cons_zero, List.getElem_cons_succ] at p0 p1 p2 p3
      go_wp2_with fail
      refine (HSO.out _ Mw.out Mv.out).mono ?_
      rintro e' wn ⟨rfl, hbn⟩
      have Mz := Lib.hid (Mw.out.trans (hbn.mono Mw.out.size))
      clear hbn
      go_wp2_with (with_reducible refine end_at ?_)
      refine end_ret (v := .bool true) (by simp [results, Tryd.results3]) rfl ⟨rfl, Mz.out⟩
set_option maxRecDepth 100000 in
theorem prints_any (r : Rec) (s nm : ByteArray) (A A' : Option Addr) (n c m d : Nat) (w : World)
    (hN : SlR encS 1 w w.heap.size A n r.names) (hP : SlR encS 1 w w.heap.size A' m r.pledges) (hsn : ∀ s ∈ r.names, s.size ≤ 140737488351232) (hsp : ∀ s ∈ r.pledges, s.size ≤ 140737488351232) (hss : s.size ≤ 140737488351232) (hnn : nm.size ≤ 140737488351232) (hG : Pows w) (hE : Errs w) :
    Calls Tryd.prog 3 #[recV r A n c A' m d, .string s, .string nm] w fun e w' => e = .returned (.bool true) ∧ Below w.heap.size w w' := by
  by_cases hmain : bigR r = false ∧ s.size ≤ 3000 ∧ nm.size ≤ 100
  · exact prints_main r s nm A A' n c m d w hmain.1 hmain.2.1 hmain.2.2 hN hP hsn hsp hG hE
  · have HBI := Lib.hid (fun W (hW : Below w.heap.size w W) => mbig_any r A A' n c m d W ((hN.below hW).more hW.size) ((hP.below hW).more hW.size) hsn hsp)
    clear hN hP hsn hsp hG hE
    obtain ⟨V, hV⟩ : ∃ V, bigR r = V := ⟨_, rfl⟩
    rw [hV] at HBI hmain
    clear hV
    unfold recV at HBI ⊢
    have hway : V = true ∨ (V = false ∧ 3000 < s.size) ∨ (V = false ∧ ¬ 3000 < s.size ∧ 100 < nm.size) := by
      cases V
      · by_cases h1 : 3000 < s.size
        · exact .inr (.inl ⟨rfl, h1⟩)
        · exact .inr (.inr ⟨rfl, h1, by
            by_cases h2 : 100 < nm.size
            · exact h2
            · exact absurd ⟨rfl, by omega, by omega⟩ hmain⟩)
      · exact .inl rfl
    clear hmain
    have HB0 : Hid (Below w.heap.size w (w.alloc (.cells #[.int .i64 r.epoch, .int .i64 r.k, .slice A n c, .slice A' m d] 24))) := Lib.hid (by go_grown)
    have HDN : ∀ w1, Below (w.alloc (.cells #[.int .i64 r.epoch, .int .i64 r.k, .slice A n c, .slice A' m d] 24)).heap.size (w.alloc (.cells #[.int .i64 r.epoch, .int .i64 r.k, .slice A n c, .slice A' m d] 24)) w1 → Below w.heap.size w w1 := fun w1 hb => HB0.out.trans (hb.mono HB0.out.size)
    have HDN := Lib.hid HDN
    rcases hway with rfl | ⟨rfl, h1⟩ | ⟨rfl, h1, h2⟩
    · go_enter Tryd.func3, Tryd.ntmps3
      go_wp2_with fail
      refine (HBI.out _ HB0.out).mono ?_
      rintro e' w1 ⟨rfl, hb1⟩
      go_wp2_with (with_reducible refine end_at ?_)
      refine end_ret (v := .bool true) (by simp [results, Tryd.results3]) rfl ⟨rfl, HDN.out _ hb1⟩
    · have g1 : (3000 : Int) < (s.size : Int) := by omega
      go_enter Tryd.func3, Tryd.ntmps3
      go_wp2_with fail
      refine (HBI.out _ HB0.out).mono ?_
      rintro e' w1 ⟨rfl, hb1⟩
      go_wp2_with (with_reducible refine end_at ?_)
      refine end_ret (v := .bool true) (by simp [results, Tryd.results3]) rfl ⟨rfl, HDN.out _ hb1⟩
    · have g1 : ¬ (3000 : Int) < (s.size : Int) := by omega
      have g2 : (100 : Int) < (nm.size : Int) := by omega
      go_enter Tryd.func3, Tryd.ntmps3
      go_wp2_with fail
      refine (HBI.out _ HB0.out).mono ?_
      rintro e' w1 ⟨rfl, hb1⟩
      go_wp2_with (with_reducible refine end_at ?_)
      refine end_ret (v := .bool true) (by simp [results, Tryd.results3]) rfl ⟨rfl, HDN.out _ hb1⟩
end Go.Proofs.YtbgohcedakpnbaaDoor
