/- MemberBack: the walk. -/
import Derived.Test.YtbgohcedakpnbaaGreatDoorMemY
import Derived.Test.YtbgohcedakpnbaaGreatDoorMemQ
set_option linter.unusedVariables false
set_option linter.unusedSimpArgs false
namespace Go.Proofs.YtbgohcedakpnbaaGreatDoor
open Go.RowKit Go.Shelf
theorem texts_self (L : List ByteArray) : textsB L L = true := by simp [textsB]
theorem same_self (r : Rec) : sameR r r = true := by simp [sameR, texts_self]
theorem print_ne {r : Rec} (h : checkB r = true) : printB r ≠ ⟨#[]⟩ := fun e => by
  have h1 := congrArg ByteArray.size e
  have h2 : (printB r).size = (catT (linesL r)).length := List.size_toArray ..
  have h3 : catT (linesL r) = (line0 r).data.toList ++ 10 :: catT (List.zipWith lineAt r.names r.pledges) := catT_cons _ _
  rw [h2, h3] at h1
  have h4 : (⟨#[]⟩ : ByteArray).size = 0 := rfl
  rw [h4] at h1
  simp at h1
theorem big_len {r : Rec} (h : bigR r = false) : r.names.length ≤ 30 ∧ r.pledges.length ≤ 30 := by
  unfold bigR at h
  simp only [Bool.or_eq_false_iff, decide_eq_false_iff_not] at h
  omega
set_option maxRecDepth 100000 in
set_option maxHeartbeats 16000000 in
theorem back_main (key nonce : ByteArray) (r : Rec) (s : ByteArray) (A A' : Option Addr) (n c m d : Nat) (w : World) (hbig : bigR r = false) (hs : s.size ≤ 3000) (hkn : key.size + nonce.size ≤ 200)
    (hN : SlR encS 1 w w.heap.size A n r.names) (hP : SlR encS 1 w w.heap.size A' m r.pledges) (hsn : ∀ s ∈ r.names, s.size ≤ 140737488351232) (hsp : ∀ s ∈ r.pledges, s.size ≤ 140737488351232) (hG : Pows w) (hE : Errs w) (hT : Turns w) :
    Calls Tryz.prog 3 #[.string key, .string nonce, recV r A n c A' m d, .string s] w fun e w' => e = .returned (.bool true) ∧ Below w.heap.size w w' := by
  have HBI := Lib.hid (fun W (hW : Below w.heap.size w W) => mbig_any r A A' n c m d W ((hN.below hW).more hW.size) ((hP.below hW).more hW.size) hsn hsp)
  have HPR := Lib.hid (fun W (hW : Below w.heap.size w W) => mprint_any r A A' n c m d W ((hN.below hW).more hW.size) ((hP.below hW).more hW.size) hsn hsp (hG.below hW))
  have HCK := Lib.hid (fun W (hW : Below w.heap.size w W) => mcheck_any r A A' n c m d W ((hN.below hW).more hW.size) ((hP.below hW).more hW.size) hsn hsp)
  have HHI := Lib.hid (fun W (hW : Below w.heap.size w W) => mhide_any key nonce r A A' n c m d W ((hN.below hW).more hW.size) ((hP.below hW).more hW.size) hsn hsp (hG.below hW) (hT.below hW hT.pos))
  have HME := Lib.hid (fun W (hW : Below w.heap.size w W) => members_any W (hG.below hW))
  have hlens := big_len hbig
  have hln := hN.1
  have hlp := hP.1
  have hn30 : n ≤ 30 := by omega
  have hm30 : m ≤ 30 := by omega
  rw [hbig] at HBI
  obtain ⟨bs, fs, hps⟩ := parse_of s
  have HPS := Lib.hid (fun W (hW : Below w.heap.size w W) => mparse_any bs fs s W hps (by omega) (hG.below hW) (hE.below hW))
  obtain ⟨b1, f1, hp1, hb1⟩ : ∃ b1 f1, ParseOf (printF r).1 b1 f1 ∧ ((printF r).2 = 0 → f1 = 0 ∧ b1 = r ∧ checkB r = true) := by
    cases hck : checkB r with
    | true =>
      rw [show printF r = (printB r, 0) by rw [printF, if_pos hck]]
      exact ⟨r, 0, .inl ⟨rfl, hck, rfl⟩, fun _ => ⟨rfl, rfl, rfl⟩⟩
    | false =>
      rw [show printF r = (⟨#[]⟩, 180) by rw [printF, if_neg (by rw [hck]; decide)]]
      exact ⟨noRec, 180, .inr ⟨rfl, rfl, fun q hq => print_ne hq⟩, fun h => by cases h⟩
  have has : (printF r).1.size ≤ 100000 := by
    cases hck : checkB r with
    | true => rw [show printF r = (printB r, 0) by rw [printF, if_pos hck]]; exact print_small hck
    | false => rw [show printF r = (⟨#[]⟩, 180) by rw [printF, if_neg (by rw [hck]; decide)]]; exact Nat.zero_le _
  have HPA := Lib.hid (fun W (hW : Below w.heap.size w W) => mparse_any b1 f1 (printF r).1 W hp1 has (hG.below hW) (hE.below hW))
  obtain ⟨u, k, hu, hu2, hu3⟩ : ∃ u k, ShowOf key (mhideF key nonce r).1 u k ∧ ((mhideF key nonce r).2 = 0 → k = 0 ∧ u = r) ∧ (checkB r = false → (mhideF key nonce r).2 = 180) := by
    cases hck : checkB r with
    | false =>
      rw [show mhideF key nonce r = (⟨#[]⟩, 180) by rw [mhideF, if_neg (by rw [hck]; decide)]]
      exact ⟨noRec, 60, .inl ⟨rfl, rfl, rfl⟩, fun h => absurd h (by decide), fun _ => rfl⟩
    | true =>
      obtain ⟨⟨x, q⟩, hV⟩ : ∃ V, sealF key nonce recordT (printB r) = V := ⟨_, rfl⟩
      rw [show mhideF key nonce r = if q = 0 then (nonce ++ x, 0) else (⟨#[]⟩, q) by rw [mhideF, if_pos hck, hV]]
      by_cases hq : q = 0
      · subst hq
        have hsz := seal_size hV
        have hpz := print_small hck
        obtain ⟨_, hnz, _⟩ := seal_ok hV
        exact ⟨r, 0, .inr ⟨rfl, hck, nonce, x, hnz, by omega, by simp, seal_open hV⟩, fun _ => ⟨rfl, rfl⟩, fun h => by cases h⟩
      · rw [if_neg hq]
        exact ⟨noRec, 60, .inl ⟨rfl, rfl, rfl⟩, fun h => absurd h hq, fun h => by cases h⟩
  have HSH := Lib.hid (fun W (hW : Below w.heap.size w W) => mshow_any key (mhideF key nonce r).1 u k W hu (hG.below hW) (hE.below hW) (hT.below hW hT.pos))
  have hck0 : (printF r).2 = if checkB r = true then 0 else 180 := by unfold printF; split <;> rfl
  have HN := Lib.hid hN
  have HP := Lib.hid hP
  have HG := Lib.hid hG
  have HLN := Lib.hid (And.intro hln hlp)
  have HHF : Hid (bs.names.length ≤ 30 ∧ bs.pledges.length ≤ 30) := Lib.hid (by
    rcases hps with ⟨_, h, _⟩ | ⟨_, rfl, _⟩
    · obtain ⟨⟨_, _, _, h4, h5, _, _⟩, _⟩ := (checkB_iff bs).1 h
      omega
    · exact ⟨Nat.zero_le _, Nat.zero_le _⟩)
  have HBSZ := Lib.hid (parse_sizes hps)
  have e1 : ¬ (3000 : Int) < (s.size : Int) := by omega
  have e2 : ¬ (200 : Int) < (key.size : Int) + (nonce.size : Int) := by omega
  have e3 : IntKind.i64.wrap ((key.size : Int) + (nonce.size : Int)) = (key.size : Int) + (nonce.size : Int) := by simp only [IntKind.wrap, IntKind.bits, IntKind.signed]; simp; omega
  have e4 : ¬ 3000 < s.size := by omega
  have e5 : ¬ 200 < key.size + nonce.size := by omega
  clear hN hP hsn hsp hG hE hT hp1 has hu hbig hlens hln hlp
  obtain ⟨⟨a, e⟩, ha⟩ : ∃ V, printF r = V := ⟨_, rfl⟩
  obtain ⟨⟨t, i⟩, ht⟩ : ∃ V, mhideF key nonce r = V := ⟨_, rfl⟩
  rw [ha] at HPR HPA hb1 hck0
  rw [ht] at HHI HSH hu2 hu3
  dsimp only at *
  clear ha ht
  have HBSL := HHF
  have hfs : (fs = 0 ∧ printF bs = (s, 0)) ∨ (fs = 180 ∧ sameR bs noRec = true) := by
    rcases hps with ⟨h1, h2, h3⟩ | ⟨h1, rfl, _⟩
    · exact .inl ⟨h1, by rw [printF, if_pos h2, h3]⟩
    · exact .inr ⟨h1, same_self _⟩
  clear hps
  by_cases he : e = 0
  · obtain ⟨hf1, hbr, hC⟩ := hb1 he
    subst he hf1
    rw [hbr] at HPA
    clear hbr
    rw [hC] at HCK hu3
    clear hck0 hu3 hb1
    have HB1S : Hid (r.names.length ≤ 1000 ∧ r.pledges.length ≤ 1000) := Lib.hid (by have := HLN.out; omega)
    have HS1 : Hid (sameR r r = true) := Lib.hid (same_self _)
    by_cases hi : i = 0
    · obtain ⟨hk, hur⟩ := hu2 hi
      subst hi hk
      rw [hur] at HSH
      clear hur
      have HUS := HB1S
      have HS3 := HS1
      clear hu2
      rcases hfs with ⟨rfl, hpf⟩ | ⟨rfl, hz⟩
      · have HPF := Lib.hid hpf
        clear hpf
        unfold recV at HBI HPR HCK HHI ⊢
        have Hw_0 : Hid (Below w.heap.size w (w.alloc (.cells #[.int .i64 r.epoch, .int .i64 r.k, .slice A n c, .slice A' m d] 24))) := Lib.hid (by go_grown)
        have Hr_0 : Hid (Below (w.alloc (.cells #[.int .i64 r.epoch, .int .i64 r.k, .slice A n c, .slice A' m d] 24)).heap.size (w.alloc (.cells #[.int .i64 r.epoch, .int .i64 r.k, .slice A n c, .slice A' m d] 24)) (w.alloc (.cells #[.int .i64 r.epoch, .int .i64 r.k, .slice A n c, .slice A' m d] 24))) := Lib.hid (Below.refl _ _)
        go_enter Tryz.func3, Tryz.ntmps3
        go_wp2_with fail
        refine (HBI.out _ Hw_0.out).mono ?_
        rintro e' w1 ⟨rfl, hb1⟩
        have Hw_1 := Lib.hid (Hw_0.out.trans (hb1.mono Hw_0.out.size))
        clear Hw_0
        have Hr_2 := Lib.hid (Hr_0.out.trans (hb1.mono Hr_0.out.size))
        clear Hr_0
        clear hb1
        have q0 := ((Blk.new w 24 #[.int .i64 r.epoch, .int .i64 r.k, .slice A n c, .slice A' m d]).below Hr_2.out (by simp)).cells 0 _ rfl
        have q1 := ((Blk.new w 24 #[.int .i64 r.epoch, .int .i64 r.k, .slice A n c, .slice A' m d]).below Hr_2.out (by simp)).cells 1 _ rfl
        have q2 := ((Blk.new w 24 #[.int .i64 r.epoch, .int .i64 r.k, .slice A n c, .slice A' m d]).below Hr_2.out (by simp)).cells 2 _ rfl
        have q3 := ((Blk.new w 24 #[.int .i64 r.epoch, .int .i64 r.k, .slice A n c, .slice A' m d]).below Hr_2.out (by simp)).cells 3 _ rfl
        simp only [List.getElem_toArray, List.getElem_cons_zero, List.getElem_cons_succ] at q0 q1 q2 q3
        go_wp2_with fail
        refine (HPR.out _ Hw_1.out).mono ?_
        rintro e' w2 ⟨rfl, hb2⟩
        have Hw_3 := Lib.hid (Hw_1.out.trans (hb2.mono Hw_1.out.size))
        clear Hw_1
        have Hr_4 := Lib.hid (Hr_2.out.trans (hb2.mono Hr_2.out.size))
        clear Hr_2
        clear hb2 q0 q1 q2 q3
        go_wp2_with fail
        refine (HPA.out _ Hw_3.out).mono ?_
        rintro e' w3 ⟨A1, A1', n1, c1, d1, rfl, hn1, hp1, hl1, hm1, hb3⟩
        have Hw_5 := Lib.hid (Hw_3.out.trans (hb3.mono Hw_3.out.size))
        clear Hw_3
        have Hr_6 := Lib.hid (Hr_4.out.trans (hb3.mono Hr_4.out.size))
        clear Hr_4
        have hN1 := srow_slr hn1.out hl1
        have hP1 := srow_slr hp1.out hm1
        have HSA := Lib.hid (fun W (hW : Below w3.heap.size w3 W) (hV : Below w.heap.size w W) => rsame_any r r A1 A1' n1 c1 n1 d1 A A' n c m d W ((hN1.below hW).more hW.size) ((hP1.below hW).more hW.size) ((HN.out.below hV).more hV.size) ((HP.out.below hV).more hV.size) (by have := HB1S.out.1; omega) (by omega) (by have := HB1S.out.2; omega) (by omega))
        rw [HS1.out] at HSA
        have hW3 : Hid (Below w3.heap.size w3 (w3.alloc (.cells #[.int .i64 r.epoch, .int .i64 r.k, .slice A1 n1 c1, .slice A1' n1 d1] 24))) := Lib.hid (by go_grown)
        clear hb3 hn1 hp1 hN1 hP1
        unfold recV at HSA ⊢
        have Hw_7 : Hid (Below w.heap.size w (w3.alloc (.cells #[.int .i64 r.epoch, .int .i64 r.k, .slice A1 n1 c1, .slice A1' n1 d1] 24))) := Lib.hid (Hw_5.out.alloc Hw_5.out.size _)
        clear Hw_5
        have Hr_8 : Hid (Below (w.alloc (.cells #[.int .i64 r.epoch, .int .i64 r.k, .slice A n c, .slice A' m d] 24)).heap.size (w.alloc (.cells #[.int .i64 r.epoch, .int .i64 r.k, .slice A n c, .slice A' m d] 24)) (w3.alloc (.cells #[.int .i64 r.epoch, .int .i64 r.k, .slice A1 n1 c1, .slice A1' n1 d1] 24))) := Lib.hid (Hr_6.out.alloc Hr_6.out.size _)
        clear Hr_6
        have Hb_9 : Hid (Below (w3.alloc (.cells #[.int .i64 r.epoch, .int .i64 r.k, .slice A1 n1 c1, .slice A1' n1 d1] 24)).heap.size (w3.alloc (.cells #[.int .i64 r.epoch, .int .i64 r.k, .slice A1 n1 c1, .slice A1' n1 d1] 24)) (w3.alloc (.cells #[.int .i64 r.epoch, .int .i64 r.k, .slice A1 n1 c1, .slice A1' n1 d1] 24))) := Lib.hid (Below.refl _ _)
        have q0 := ((Blk.new w 24 #[.int .i64 r.epoch, .int .i64 r.k, .slice A n c, .slice A' m d]).below Hr_8.out (by simp)).cells 0 _ rfl
        have q1 := ((Blk.new w 24 #[.int .i64 r.epoch, .int .i64 r.k, .slice A n c, .slice A' m d]).below Hr_8.out (by simp)).cells 1 _ rfl
        have q2 := ((Blk.new w 24 #[.int .i64 r.epoch, .int .i64 r.k, .slice A n c, .slice A' m d]).below Hr_8.out (by simp)).cells 2 _ rfl
        have q3 := ((Blk.new w 24 #[.int .i64 r.epoch, .int .i64 r.k, .slice A n c, .slice A' m d]).below Hr_8.out (by simp)).cells 3 _ rfl
        simp only [List.getElem_toArray, List.getElem_cons_zero, List.getElem_cons_succ] at q0 q1 q2 q3
        go_wp2_with fail
        refine (HSA.out _ hW3.out Hw_7.out).mono ?_
        rintro e' w4 ⟨rfl, hb4⟩
        have Hw_10 := Lib.hid (Hw_7.out.trans (hb4.mono Hw_7.out.size))
        clear Hw_7
        have Hr_11 := Lib.hid (Hr_8.out.trans (hb4.mono Hr_8.out.size))
        clear Hr_8
        have Hb_12 := Lib.hid (Hb_9.out.trans (hb4.mono Hb_9.out.size))
        clear Hb_9
        clear hb4 HSA hW3 q0 q1 q2 q3
        go_wp2_with fail
        refine (HPS.out _ Hw_10.out).mono ?_
        rintro e' w5 ⟨A2, A2', n2, c2, d2, rfl, hn2, hp2, hl2, hm2, hb5⟩
        have Hw_13 := Lib.hid (Hw_10.out.trans (hb5.mono Hw_10.out.size))
        clear Hw_10
        have Hr_14 := Lib.hid (Hr_11.out.trans (hb5.mono Hr_11.out.size))
        clear Hr_11
        have Hb_15 := Lib.hid (Hb_12.out.trans (hb5.mono Hb_12.out.size))
        clear Hb_12
        have hN2 := srow_slr hn2.out hl2
        have hP2 := srow_slr hp2.out hm2
        have HPC := Lib.hid (fun W (hW : Below w5.heap.size w5 W) (hV : Below w.heap.size w W) => mprint_any bs A2 A2' n2 c2 n2 d2 W ((hN2.below hW).more hW.size) ((hP2.below hW).more hW.size) HBSZ.out.1 HBSZ.out.2 (HG.out.below hV))
        rw [HPF.out] at HPC
        have hW5 : Hid (Below w5.heap.size w5 (w5.alloc (.cells #[.int .i64 bs.epoch, .int .i64 bs.k, .slice A2 n2 c2, .slice A2' n2 d2] 24))) := Lib.hid (by go_grown)
        clear hb5 hn2 hp2 hN2 hP2
        unfold recV at HPC ⊢
        have Hw_16 : Hid (Below w.heap.size w (w5.alloc (.cells #[.int .i64 bs.epoch, .int .i64 bs.k, .slice A2 n2 c2, .slice A2' n2 d2] 24))) := Lib.hid (Hw_13.out.alloc Hw_13.out.size _)
        clear Hw_13
        have Hr_17 : Hid (Below (w.alloc (.cells #[.int .i64 r.epoch, .int .i64 r.k, .slice A n c, .slice A' m d] 24)).heap.size (w.alloc (.cells #[.int .i64 r.epoch, .int .i64 r.k, .slice A n c, .slice A' m d] 24)) (w5.alloc (.cells #[.int .i64 bs.epoch, .int .i64 bs.k, .slice A2 n2 c2, .slice A2' n2 d2] 24))) := Lib.hid (Hr_14.out.alloc Hr_14.out.size _)
        clear Hr_14
        have Hb_18 : Hid (Below (w3.alloc (.cells #[.int .i64 r.epoch, .int .i64 r.k, .slice A1 n1 c1, .slice A1' n1 d1] 24)).heap.size (w3.alloc (.cells #[.int .i64 r.epoch, .int .i64 r.k, .slice A1 n1 c1, .slice A1' n1 d1] 24)) (w5.alloc (.cells #[.int .i64 bs.epoch, .int .i64 bs.k, .slice A2 n2 c2, .slice A2' n2 d2] 24))) := Lib.hid (Hb_15.out.alloc Hb_15.out.size _)
        clear Hb_15
        have Hc_19 : Hid (Below (w5.alloc (.cells #[.int .i64 bs.epoch, .int .i64 bs.k, .slice A2 n2 c2, .slice A2' n2 d2] 24)).heap.size (w5.alloc (.cells #[.int .i64 bs.epoch, .int .i64 bs.k, .slice A2 n2 c2, .slice A2' n2 d2] 24)) (w5.alloc (.cells #[.int .i64 bs.epoch, .int .i64 bs.k, .slice A2 n2 c2, .slice A2' n2 d2] 24))) := Lib.hid (Below.refl _ _)
        go_wp2_with fail
        refine (HPC.out _ hW5.out Hw_16.out).mono ?_
        rintro e' w6 ⟨rfl, hb6⟩
        have Hw_20 := Lib.hid (Hw_16.out.trans (hb6.mono Hw_16.out.size))
        clear Hw_16
        have Hr_21 := Lib.hid (Hr_17.out.trans (hb6.mono Hr_17.out.size))
        clear Hr_17
        have Hb_22 := Lib.hid (Hb_18.out.trans (hb6.mono Hb_18.out.size))
        clear Hb_18
        have Hc_23 := Lib.hid (Hc_19.out.trans (hb6.mono Hc_19.out.size))
        clear Hc_19
        clear hb6 HPC
        have q0 := ((Blk.new w 24 #[.int .i64 r.epoch, .int .i64 r.k, .slice A n c, .slice A' m d]).below Hr_21.out (by simp)).cells 0 _ rfl
        have q1 := ((Blk.new w 24 #[.int .i64 r.epoch, .int .i64 r.k, .slice A n c, .slice A' m d]).below Hr_21.out (by simp)).cells 1 _ rfl
        have q2 := ((Blk.new w 24 #[.int .i64 r.epoch, .int .i64 r.k, .slice A n c, .slice A' m d]).below Hr_21.out (by simp)).cells 2 _ rfl
        have q3 := ((Blk.new w 24 #[.int .i64 r.epoch, .int .i64 r.k, .slice A n c, .slice A' m d]).below Hr_21.out (by simp)).cells 3 _ rfl
        simp only [List.getElem_toArray, List.getElem_cons_zero, List.getElem_cons_succ] at q0 q1 q2 q3
        go_wp2_with fail
        refine (HHI.out _ Hw_20.out).mono ?_
        rintro e' w7 ⟨rfl, hb7⟩
        have Hw_24 := Lib.hid (Hw_20.out.trans (hb7.mono Hw_20.out.size))
        clear Hw_20
        have Hr_25 := Lib.hid (Hr_21.out.trans (hb7.mono Hr_21.out.size))
        clear Hr_21
        have Hb_26 := Lib.hid (Hb_22.out.trans (hb7.mono Hb_22.out.size))
        clear Hb_22
        have Hc_27 := Lib.hid (Hc_23.out.trans (hb7.mono Hc_23.out.size))
        clear Hc_23
        clear hb7 q0 q1 q2 q3
        go_wp2_with fail
        refine (HSH.out _ Hw_24.out).mono ?_
        rintro e' w8 ⟨A3, A3', n3, c3, d3, rfl, hn3, hp3, hl3, hm3, hb8⟩
        have Hw_28 := Lib.hid (Hw_24.out.trans (hb8.mono Hw_24.out.size))
        clear Hw_24
        have Hr_29 := Lib.hid (Hr_25.out.trans (hb8.mono Hr_25.out.size))
        clear Hr_25
        have Hb_30 := Lib.hid (Hb_26.out.trans (hb8.mono Hb_26.out.size))
        clear Hb_26
        have Hc_31 := Lib.hid (Hc_27.out.trans (hb8.mono Hc_27.out.size))
        clear Hc_27
        have hN3 := srow_slr hn3.out hl3
        have hP3 := srow_slr hp3.out hm3
        have HSU := Lib.hid (fun W (hW : Below w8.heap.size w8 W) (hV : Below w.heap.size w W) => rsame_any r r A3 A3' n3 c3 n3 d3 A A' n c m d W ((hN3.below hW).more hW.size) ((hP3.below hW).more hW.size) ((HN.out.below hV).more hV.size) ((HP.out.below hV).more hV.size) (by have := HUS.out.1; omega) (by omega) (by have := HUS.out.2; omega) (by omega))
        rw [HS3.out] at HSU
        have hW8 : Hid (Below w8.heap.size w8 (w8.alloc (.cells #[.int .i64 r.epoch, .int .i64 r.k, .slice A3 n3 c3, .slice A3' n3 d3] 24))) := Lib.hid (by go_grown)
        clear hN3 hP3
        clear hb8 hn3 hp3
        unfold recV at HSU ⊢
        have Hw_32 : Hid (Below w.heap.size w (w8.alloc (.cells #[.int .i64 r.epoch, .int .i64 r.k, .slice A3 n3 c3, .slice A3' n3 d3] 24))) := Lib.hid (Hw_28.out.alloc Hw_28.out.size _)
        clear Hw_28
        have Hr_33 : Hid (Below (w.alloc (.cells #[.int .i64 r.epoch, .int .i64 r.k, .slice A n c, .slice A' m d] 24)).heap.size (w.alloc (.cells #[.int .i64 r.epoch, .int .i64 r.k, .slice A n c, .slice A' m d] 24)) (w8.alloc (.cells #[.int .i64 r.epoch, .int .i64 r.k, .slice A3 n3 c3, .slice A3' n3 d3] 24))) := Lib.hid (Hr_29.out.alloc Hr_29.out.size _)
        clear Hr_29
        have Hb_34 : Hid (Below (w3.alloc (.cells #[.int .i64 r.epoch, .int .i64 r.k, .slice A1 n1 c1, .slice A1' n1 d1] 24)).heap.size (w3.alloc (.cells #[.int .i64 r.epoch, .int .i64 r.k, .slice A1 n1 c1, .slice A1' n1 d1] 24)) (w8.alloc (.cells #[.int .i64 r.epoch, .int .i64 r.k, .slice A3 n3 c3, .slice A3' n3 d3] 24))) := Lib.hid (Hb_30.out.alloc Hb_30.out.size _)
        clear Hb_30
        have Hc_35 : Hid (Below (w5.alloc (.cells #[.int .i64 bs.epoch, .int .i64 bs.k, .slice A2 n2 c2, .slice A2' n2 d2] 24)).heap.size (w5.alloc (.cells #[.int .i64 bs.epoch, .int .i64 bs.k, .slice A2 n2 c2, .slice A2' n2 d2] 24)) (w8.alloc (.cells #[.int .i64 r.epoch, .int .i64 r.k, .slice A3 n3 c3, .slice A3' n3 d3] 24))) := Lib.hid (Hc_31.out.alloc Hc_31.out.size _)
        clear Hc_31
        have Hu_36 : Hid (Below (w8.alloc (.cells #[.int .i64 r.epoch, .int .i64 r.k, .slice A3 n3 c3, .slice A3' n3 d3] 24)).heap.size (w8.alloc (.cells #[.int .i64 r.epoch, .int .i64 r.k, .slice A3 n3 c3, .slice A3' n3 d3] 24)) (w8.alloc (.cells #[.int .i64 r.epoch, .int .i64 r.k, .slice A3 n3 c3, .slice A3' n3 d3] 24))) := Lib.hid (Below.refl _ _)
        go_wp2_with fail
        refine (HME.out _ Hw_32.out).mono ?_
        rintro e' w9 ⟨rfl, hb9⟩
        have hW9 := Lib.hid (hW8.out.trans (hb9.mono hW8.out.size))
        have Hw_37 := Lib.hid (Hw_32.out.trans (hb9.mono Hw_32.out.size))
        clear Hw_32
        have Hr_38 := Lib.hid (Hr_33.out.trans (hb9.mono Hr_33.out.size))
        clear Hr_33
        have Hb_39 := Lib.hid (Hb_34.out.trans (hb9.mono Hb_34.out.size))
        clear Hb_34
        have Hc_40 := Lib.hid (Hc_35.out.trans (hb9.mono Hc_35.out.size))
        clear Hc_35
        have Hu_41 := Lib.hid (Hu_36.out.trans (hb9.mono Hu_36.out.size))
        clear Hu_36
        clear hb9
        have q0 := ((Blk.new w 24 #[.int .i64 r.epoch, .int .i64 r.k, .slice A n c, .slice A' m d]).below Hr_38.out (by simp)).cells 0 _ rfl
        have q1 := ((Blk.new w 24 #[.int .i64 r.epoch, .int .i64 r.k, .slice A n c, .slice A' m d]).below Hr_38.out (by simp)).cells 1 _ rfl
        have q2 := ((Blk.new w 24 #[.int .i64 r.epoch, .int .i64 r.k, .slice A n c, .slice A' m d]).below Hr_38.out (by simp)).cells 2 _ rfl
        have q3 := ((Blk.new w 24 #[.int .i64 r.epoch, .int .i64 r.k, .slice A n c, .slice A' m d]).below Hr_38.out (by simp)).cells 3 _ rfl
        simp only [List.getElem_toArray, List.getElem_cons_zero, List.getElem_cons_succ] at q0 q1 q2 q3
        have p0 := ((Blk.new w8 24 #[.int .i64 r.epoch, .int .i64 r.k, .slice A3 n3 c3, .slice A3' n3 d3]).below Hu_41.out (by simp)).cells 0 _ rfl
        have p1 := ((Blk.new w8 24 #[.int .i64 r.epoch, .int .i64 r.k, .slice A3 n3 c3, .slice A3' n3 d3]).below Hu_41.out (by simp)).cells 1 _ rfl
        have p2 := ((Blk.new w8 24 #[.int .i64 r.epoch, .int .i64 r.k, .slice A3 n3 c3, .slice A3' n3 d3]).below Hu_41.out (by simp)).cells 2 _ rfl
        have p3 := ((Blk.new w8 24 #[.int .i64 r.epoch, .int .i64 r.k, .slice A3 n3 c3, .slice A3' n3 d3]).below Hu_41.out (by simp)).cells 3 _ rfl
        simp only [List.getElem_toArray, List.getElem_cons_zero, List.getElem_cons_succ] at p0 p1 p2 p3
        go_wp2_with fail
        refine (HSU.out _ hW9.out Hw_37.out).mono ?_
        rintro e' w10 ⟨rfl, hb10⟩
        have Hw_42 := Lib.hid (Hw_37.out.trans (hb10.mono Hw_37.out.size))
        clear Hw_37
        have Hr_43 := Lib.hid (Hr_38.out.trans (hb10.mono Hr_38.out.size))
        clear Hr_38
        have Hb_44 := Lib.hid (Hb_39.out.trans (hb10.mono Hb_39.out.size))
        clear Hb_39
        have Hc_45 := Lib.hid (Hc_40.out.trans (hb10.mono Hc_40.out.size))
        clear Hc_40
        have Hu_46 := Lib.hid (Hu_41.out.trans (hb10.mono Hu_41.out.size))
        clear Hu_41
        clear hb10 q0 q1 q2 q3 p0 p1 p2 p3
        have q0 := ((Blk.new w 24 #[.int .i64 r.epoch, .int .i64 r.k, .slice A n c, .slice A' m d]).below Hr_43.out (by simp)).cells 0 _ rfl
        have q1 := ((Blk.new w 24 #[.int .i64 r.epoch, .int .i64 r.k, .slice A n c, .slice A' m d]).below Hr_43.out (by simp)).cells 1 _ rfl
        have q2 := ((Blk.new w 24 #[.int .i64 r.epoch, .int .i64 r.k, .slice A n c, .slice A' m d]).below Hr_43.out (by simp)).cells 2 _ rfl
        have q3 := ((Blk.new w 24 #[.int .i64 r.epoch, .int .i64 r.k, .slice A n c, .slice A' m d]).below Hr_43.out (by simp)).cells 3 _ rfl
        simp only [List.getElem_toArray, List.getElem_cons_zero, List.getElem_cons_succ] at q0 q1 q2 q3
        go_wp2_with fail
        refine (HCK.out _ Hw_42.out).mono ?_
        rintro e' w11 ⟨rfl, hb11⟩
        have Hw_47 := Lib.hid (Hw_42.out.trans (hb11.mono Hw_42.out.size))
        clear Hw_42
        have Hr_48 := Lib.hid (Hr_43.out.trans (hb11.mono Hr_43.out.size))
        clear Hr_43
        have Hb_49 := Lib.hid (Hb_44.out.trans (hb11.mono Hb_44.out.size))
        clear Hb_44
        have Hc_50 := Lib.hid (Hc_45.out.trans (hb11.mono Hc_45.out.size))
        clear Hc_45
        have Hu_51 := Lib.hid (Hu_46.out.trans (hb11.mono Hu_46.out.size))
        clear Hu_46
        clear hb11 q0 q1 q2 q3
        go_wp2_with (with_reducible refine end_at ?_)
        refine end_ret (v := .bool true) (by simp [results, Tryz.results3]) rfl ⟨rfl, Hw_47.out⟩
      · have HSZ := Lib.hid hz
        skip
        clear hz
        unfold recV at HBI HPR HCK HHI ⊢
        have Hw_0 : Hid (Below w.heap.size w (w.alloc (.cells #[.int .i64 r.epoch, .int .i64 r.k, .slice A n c, .slice A' m d] 24))) := Lib.hid (by go_grown)
        have Hr_0 : Hid (Below (w.alloc (.cells #[.int .i64 r.epoch, .int .i64 r.k, .slice A n c, .slice A' m d] 24)).heap.size (w.alloc (.cells #[.int .i64 r.epoch, .int .i64 r.k, .slice A n c, .slice A' m d] 24)) (w.alloc (.cells #[.int .i64 r.epoch, .int .i64 r.k, .slice A n c, .slice A' m d] 24))) := Lib.hid (Below.refl _ _)
        go_enter Tryz.func3, Tryz.ntmps3
        go_wp2_with fail
        refine (HBI.out _ Hw_0.out).mono ?_
        rintro e' w1 ⟨rfl, hb1⟩
        have Hw_1 := Lib.hid (Hw_0.out.trans (hb1.mono Hw_0.out.size))
        clear Hw_0
        have Hr_2 := Lib.hid (Hr_0.out.trans (hb1.mono Hr_0.out.size))
        clear Hr_0
        clear hb1
        have q0 := ((Blk.new w 24 #[.int .i64 r.epoch, .int .i64 r.k, .slice A n c, .slice A' m d]).below Hr_2.out (by simp)).cells 0 _ rfl
        have q1 := ((Blk.new w 24 #[.int .i64 r.epoch, .int .i64 r.k, .slice A n c, .slice A' m d]).below Hr_2.out (by simp)).cells 1 _ rfl
        have q2 := ((Blk.new w 24 #[.int .i64 r.epoch, .int .i64 r.k, .slice A n c, .slice A' m d]).below Hr_2.out (by simp)).cells 2 _ rfl
        have q3 := ((Blk.new w 24 #[.int .i64 r.epoch, .int .i64 r.k, .slice A n c, .slice A' m d]).below Hr_2.out (by simp)).cells 3 _ rfl
        simp only [List.getElem_toArray, List.getElem_cons_zero, List.getElem_cons_succ] at q0 q1 q2 q3
        go_wp2_with fail
        refine (HPR.out _ Hw_1.out).mono ?_
        rintro e' w2 ⟨rfl, hb2⟩
        have Hw_3 := Lib.hid (Hw_1.out.trans (hb2.mono Hw_1.out.size))
        clear Hw_1
        have Hr_4 := Lib.hid (Hr_2.out.trans (hb2.mono Hr_2.out.size))
        clear Hr_2
        clear hb2 q0 q1 q2 q3
        go_wp2_with fail
        refine (HPA.out _ Hw_3.out).mono ?_
        rintro e' w3 ⟨A1, A1', n1, c1, d1, rfl, hn1, hp1, hl1, hm1, hb3⟩
        have Hw_5 := Lib.hid (Hw_3.out.trans (hb3.mono Hw_3.out.size))
        clear Hw_3
        have Hr_6 := Lib.hid (Hr_4.out.trans (hb3.mono Hr_4.out.size))
        clear Hr_4
        have hN1 := srow_slr hn1.out hl1
        have hP1 := srow_slr hp1.out hm1
        have HSA := Lib.hid (fun W (hW : Below w3.heap.size w3 W) (hV : Below w.heap.size w W) => rsame_any r r A1 A1' n1 c1 n1 d1 A A' n c m d W ((hN1.below hW).more hW.size) ((hP1.below hW).more hW.size) ((HN.out.below hV).more hV.size) ((HP.out.below hV).more hV.size) (by have := HB1S.out.1; omega) (by omega) (by have := HB1S.out.2; omega) (by omega))
        rw [HS1.out] at HSA
        have hW3 : Hid (Below w3.heap.size w3 (w3.alloc (.cells #[.int .i64 r.epoch, .int .i64 r.k, .slice A1 n1 c1, .slice A1' n1 d1] 24))) := Lib.hid (by go_grown)
        clear hb3 hn1 hp1 hN1 hP1
        unfold recV at HSA ⊢
        have Hw_7 : Hid (Below w.heap.size w (w3.alloc (.cells #[.int .i64 r.epoch, .int .i64 r.k, .slice A1 n1 c1, .slice A1' n1 d1] 24))) := Lib.hid (Hw_5.out.alloc Hw_5.out.size _)
        clear Hw_5
        have Hr_8 : Hid (Below (w.alloc (.cells #[.int .i64 r.epoch, .int .i64 r.k, .slice A n c, .slice A' m d] 24)).heap.size (w.alloc (.cells #[.int .i64 r.epoch, .int .i64 r.k, .slice A n c, .slice A' m d] 24)) (w3.alloc (.cells #[.int .i64 r.epoch, .int .i64 r.k, .slice A1 n1 c1, .slice A1' n1 d1] 24))) := Lib.hid (Hr_6.out.alloc Hr_6.out.size _)
        clear Hr_6
        have Hb_9 : Hid (Below (w3.alloc (.cells #[.int .i64 r.epoch, .int .i64 r.k, .slice A1 n1 c1, .slice A1' n1 d1] 24)).heap.size (w3.alloc (.cells #[.int .i64 r.epoch, .int .i64 r.k, .slice A1 n1 c1, .slice A1' n1 d1] 24)) (w3.alloc (.cells #[.int .i64 r.epoch, .int .i64 r.k, .slice A1 n1 c1, .slice A1' n1 d1] 24))) := Lib.hid (Below.refl _ _)
        have q0 := ((Blk.new w 24 #[.int .i64 r.epoch, .int .i64 r.k, .slice A n c, .slice A' m d]).below Hr_8.out (by simp)).cells 0 _ rfl
        have q1 := ((Blk.new w 24 #[.int .i64 r.epoch, .int .i64 r.k, .slice A n c, .slice A' m d]).below Hr_8.out (by simp)).cells 1 _ rfl
        have q2 := ((Blk.new w 24 #[.int .i64 r.epoch, .int .i64 r.k, .slice A n c, .slice A' m d]).below Hr_8.out (by simp)).cells 2 _ rfl
        have q3 := ((Blk.new w 24 #[.int .i64 r.epoch, .int .i64 r.k, .slice A n c, .slice A' m d]).below Hr_8.out (by simp)).cells 3 _ rfl
        simp only [List.getElem_toArray, List.getElem_cons_zero, List.getElem_cons_succ] at q0 q1 q2 q3
        go_wp2_with fail
        refine (HSA.out _ hW3.out Hw_7.out).mono ?_
        rintro e' w4 ⟨rfl, hb4⟩
        have Hw_10 := Lib.hid (Hw_7.out.trans (hb4.mono Hw_7.out.size))
        clear Hw_7
        have Hr_11 := Lib.hid (Hr_8.out.trans (hb4.mono Hr_8.out.size))
        clear Hr_8
        have Hb_12 := Lib.hid (Hb_9.out.trans (hb4.mono Hb_9.out.size))
        clear Hb_9
        clear hb4 HSA hW3 q0 q1 q2 q3
        go_wp2_with fail
        refine (HPS.out _ Hw_10.out).mono ?_
        rintro e' w5 ⟨A2, A2', n2, c2, d2, rfl, hn2, hp2, hl2, hm2, hb5⟩
        have Hw_13 := Lib.hid (Hw_10.out.trans (hb5.mono Hw_10.out.size))
        clear Hw_10
        have Hr_14 := Lib.hid (Hr_11.out.trans (hb5.mono Hr_11.out.size))
        clear Hr_11
        have Hb_15 := Lib.hid (Hb_12.out.trans (hb5.mono Hb_12.out.size))
        clear Hb_12
        have hN2 := srow_slr hn2.out hl2
        have hP2 := srow_slr hp2.out hm2
        have HPC := Lib.hid (fun W (hW : Below w5.heap.size w5 W) (hV : Below w.heap.size w W) => mprint_any bs A2 A2' n2 c2 n2 d2 W ((hN2.below hW).more hW.size) ((hP2.below hW).more hW.size) HBSZ.out.1 HBSZ.out.2 (HG.out.below hV))
        have hW5 : Hid (Below w5.heap.size w5 (w5.alloc (.cells #[.int .i64 bs.epoch, .int .i64 bs.k, .slice A2 n2 c2, .slice A2' n2 d2] 24))) := Lib.hid (by go_grown)
        have HSC := Lib.hid (fun W (hW : Below w5.heap.size w5 W) => rsame_any bs noRec A2 A2' n2 c2 n2 d2 none none 0 0 0 0 W ((hN2.below hW).more hW.size) ((hP2.below hW).more hW.size) (srow_slr (srow_nil W 0) rfl) (srow_slr (srow_nil W 0) rfl) (by have := HBSL.out.1; omega) (by omega) (by have := HBSL.out.2; omega) (by omega))
        rw [HSZ.out] at HSC
        clear hb5 hn2 hp2 hN2 hP2
        unfold recV at HPC HSC ⊢
        have Hw_16 : Hid (Below w.heap.size w (w5.alloc (.cells #[.int .i64 bs.epoch, .int .i64 bs.k, .slice A2 n2 c2, .slice A2' n2 d2] 24))) := Lib.hid (Hw_13.out.alloc Hw_13.out.size _)
        clear Hw_13
        have Hr_17 : Hid (Below (w.alloc (.cells #[.int .i64 r.epoch, .int .i64 r.k, .slice A n c, .slice A' m d] 24)).heap.size (w.alloc (.cells #[.int .i64 r.epoch, .int .i64 r.k, .slice A n c, .slice A' m d] 24)) (w5.alloc (.cells #[.int .i64 bs.epoch, .int .i64 bs.k, .slice A2 n2 c2, .slice A2' n2 d2] 24))) := Lib.hid (Hr_14.out.alloc Hr_14.out.size _)
        clear Hr_14
        have Hb_18 : Hid (Below (w3.alloc (.cells #[.int .i64 r.epoch, .int .i64 r.k, .slice A1 n1 c1, .slice A1' n1 d1] 24)).heap.size (w3.alloc (.cells #[.int .i64 r.epoch, .int .i64 r.k, .slice A1 n1 c1, .slice A1' n1 d1] 24)) (w5.alloc (.cells #[.int .i64 bs.epoch, .int .i64 bs.k, .slice A2 n2 c2, .slice A2' n2 d2] 24))) := Lib.hid (Hb_15.out.alloc Hb_15.out.size _)
        clear Hb_15
        have Hc_19 : Hid (Below (w5.alloc (.cells #[.int .i64 bs.epoch, .int .i64 bs.k, .slice A2 n2 c2, .slice A2' n2 d2] 24)).heap.size (w5.alloc (.cells #[.int .i64 bs.epoch, .int .i64 bs.k, .slice A2 n2 c2, .slice A2' n2 d2] 24)) (w5.alloc (.cells #[.int .i64 bs.epoch, .int .i64 bs.k, .slice A2 n2 c2, .slice A2' n2 d2] 24))) := Lib.hid (Below.refl _ _)
        go_wp2_with fail
        refine (HPC.out _ hW5.out Hw_16.out).mono ?_
        rintro e' w6 ⟨rfl, hb6⟩
        have Hw_20 := Lib.hid (Hw_16.out.trans (hb6.mono Hw_16.out.size))
        clear Hw_16
        have Hr_21 := Lib.hid (Hr_17.out.trans (hb6.mono Hr_17.out.size))
        clear Hr_17
        have Hb_22 := Lib.hid (Hb_18.out.trans (hb6.mono Hb_18.out.size))
        clear Hb_18
        have Hc_23 := Lib.hid (Hc_19.out.trans (hb6.mono Hc_19.out.size))
        clear Hc_19
        clear hb6 HPC
        have q0 := ((Blk.new w 24 #[.int .i64 r.epoch, .int .i64 r.k, .slice A n c, .slice A' m d]).below Hr_21.out (by simp)).cells 0 _ rfl
        have q1 := ((Blk.new w 24 #[.int .i64 r.epoch, .int .i64 r.k, .slice A n c, .slice A' m d]).below Hr_21.out (by simp)).cells 1 _ rfl
        have q2 := ((Blk.new w 24 #[.int .i64 r.epoch, .int .i64 r.k, .slice A n c, .slice A' m d]).below Hr_21.out (by simp)).cells 2 _ rfl
        have q3 := ((Blk.new w 24 #[.int .i64 r.epoch, .int .i64 r.k, .slice A n c, .slice A' m d]).below Hr_21.out (by simp)).cells 3 _ rfl
        simp only [List.getElem_toArray, List.getElem_cons_zero, List.getElem_cons_succ] at q0 q1 q2 q3
        go_wp2_with fail
        refine (HHI.out _ Hw_20.out).mono ?_
        rintro e' w7 ⟨rfl, hb7⟩
        have Hw_24 := Lib.hid (Hw_20.out.trans (hb7.mono Hw_20.out.size))
        clear Hw_20
        have Hr_25 := Lib.hid (Hr_21.out.trans (hb7.mono Hr_21.out.size))
        clear Hr_21
        have Hb_26 := Lib.hid (Hb_22.out.trans (hb7.mono Hb_22.out.size))
        clear Hb_22
        have Hc_27 := Lib.hid (Hc_23.out.trans (hb7.mono Hc_23.out.size))
        clear Hc_23
        clear hb7 q0 q1 q2 q3
        go_wp2_with fail
        refine (HSH.out _ Hw_24.out).mono ?_
        rintro e' w8 ⟨A3, A3', n3, c3, d3, rfl, hn3, hp3, hl3, hm3, hb8⟩
        have Hw_28 := Lib.hid (Hw_24.out.trans (hb8.mono Hw_24.out.size))
        clear Hw_24
        have Hr_29 := Lib.hid (Hr_25.out.trans (hb8.mono Hr_25.out.size))
        clear Hr_25
        have Hb_30 := Lib.hid (Hb_26.out.trans (hb8.mono Hb_26.out.size))
        clear Hb_26
        have Hc_31 := Lib.hid (Hc_27.out.trans (hb8.mono Hc_27.out.size))
        clear Hc_27
        have hN3 := srow_slr hn3.out hl3
        have hP3 := srow_slr hp3.out hm3
        have HSU := Lib.hid (fun W (hW : Below w8.heap.size w8 W) (hV : Below w.heap.size w W) => rsame_any r r A3 A3' n3 c3 n3 d3 A A' n c m d W ((hN3.below hW).more hW.size) ((hP3.below hW).more hW.size) ((HN.out.below hV).more hV.size) ((HP.out.below hV).more hV.size) (by have := HUS.out.1; omega) (by omega) (by have := HUS.out.2; omega) (by omega))
        rw [HS3.out] at HSU
        have hW8 : Hid (Below w8.heap.size w8 (w8.alloc (.cells #[.int .i64 r.epoch, .int .i64 r.k, .slice A3 n3 c3, .slice A3' n3 d3] 24))) := Lib.hid (by go_grown)
        clear hN3 hP3
        clear hb8 hn3 hp3
        unfold recV at HSU ⊢
        have Hw_32 : Hid (Below w.heap.size w (w8.alloc (.cells #[.int .i64 r.epoch, .int .i64 r.k, .slice A3 n3 c3, .slice A3' n3 d3] 24))) := Lib.hid (Hw_28.out.alloc Hw_28.out.size _)
        clear Hw_28
        have Hr_33 : Hid (Below (w.alloc (.cells #[.int .i64 r.epoch, .int .i64 r.k, .slice A n c, .slice A' m d] 24)).heap.size (w.alloc (.cells #[.int .i64 r.epoch, .int .i64 r.k, .slice A n c, .slice A' m d] 24)) (w8.alloc (.cells #[.int .i64 r.epoch, .int .i64 r.k, .slice A3 n3 c3, .slice A3' n3 d3] 24))) := Lib.hid (Hr_29.out.alloc Hr_29.out.size _)
        clear Hr_29
        have Hb_34 : Hid (Below (w3.alloc (.cells #[.int .i64 r.epoch, .int .i64 r.k, .slice A1 n1 c1, .slice A1' n1 d1] 24)).heap.size (w3.alloc (.cells #[.int .i64 r.epoch, .int .i64 r.k, .slice A1 n1 c1, .slice A1' n1 d1] 24)) (w8.alloc (.cells #[.int .i64 r.epoch, .int .i64 r.k, .slice A3 n3 c3, .slice A3' n3 d3] 24))) := Lib.hid (Hb_30.out.alloc Hb_30.out.size _)
        clear Hb_30
        have Hc_35 : Hid (Below (w5.alloc (.cells #[.int .i64 bs.epoch, .int .i64 bs.k, .slice A2 n2 c2, .slice A2' n2 d2] 24)).heap.size (w5.alloc (.cells #[.int .i64 bs.epoch, .int .i64 bs.k, .slice A2 n2 c2, .slice A2' n2 d2] 24)) (w8.alloc (.cells #[.int .i64 r.epoch, .int .i64 r.k, .slice A3 n3 c3, .slice A3' n3 d3] 24))) := Lib.hid (Hc_31.out.alloc Hc_31.out.size _)
        clear Hc_31
        have Hu_36 : Hid (Below (w8.alloc (.cells #[.int .i64 r.epoch, .int .i64 r.k, .slice A3 n3 c3, .slice A3' n3 d3] 24)).heap.size (w8.alloc (.cells #[.int .i64 r.epoch, .int .i64 r.k, .slice A3 n3 c3, .slice A3' n3 d3] 24)) (w8.alloc (.cells #[.int .i64 r.epoch, .int .i64 r.k, .slice A3 n3 c3, .slice A3' n3 d3] 24))) := Lib.hid (Below.refl _ _)
        go_wp2_with fail
        refine (HME.out _ Hw_32.out).mono ?_
        rintro e' w9 ⟨rfl, hb9⟩
        have hW9 := Lib.hid (hW8.out.trans (hb9.mono hW8.out.size))
        have Hw_37 := Lib.hid (Hw_32.out.trans (hb9.mono Hw_32.out.size))
        clear Hw_32
        have Hr_38 := Lib.hid (Hr_33.out.trans (hb9.mono Hr_33.out.size))
        clear Hr_33
        have Hb_39 := Lib.hid (Hb_34.out.trans (hb9.mono Hb_34.out.size))
        clear Hb_34
        have Hc_40 := Lib.hid (Hc_35.out.trans (hb9.mono Hc_35.out.size))
        clear Hc_35
        have Hu_41 := Lib.hid (Hu_36.out.trans (hb9.mono Hu_36.out.size))
        clear Hu_36
        clear hb9
        have q0 := ((Blk.new w 24 #[.int .i64 r.epoch, .int .i64 r.k, .slice A n c, .slice A' m d]).below Hr_38.out (by simp)).cells 0 _ rfl
        have q1 := ((Blk.new w 24 #[.int .i64 r.epoch, .int .i64 r.k, .slice A n c, .slice A' m d]).below Hr_38.out (by simp)).cells 1 _ rfl
        have q2 := ((Blk.new w 24 #[.int .i64 r.epoch, .int .i64 r.k, .slice A n c, .slice A' m d]).below Hr_38.out (by simp)).cells 2 _ rfl
        have q3 := ((Blk.new w 24 #[.int .i64 r.epoch, .int .i64 r.k, .slice A n c, .slice A' m d]).below Hr_38.out (by simp)).cells 3 _ rfl
        simp only [List.getElem_toArray, List.getElem_cons_zero, List.getElem_cons_succ] at q0 q1 q2 q3
        have p0 := ((Blk.new w8 24 #[.int .i64 r.epoch, .int .i64 r.k, .slice A3 n3 c3, .slice A3' n3 d3]).below Hu_41.out (by simp)).cells 0 _ rfl
        have p1 := ((Blk.new w8 24 #[.int .i64 r.epoch, .int .i64 r.k, .slice A3 n3 c3, .slice A3' n3 d3]).below Hu_41.out (by simp)).cells 1 _ rfl
        have p2 := ((Blk.new w8 24 #[.int .i64 r.epoch, .int .i64 r.k, .slice A3 n3 c3, .slice A3' n3 d3]).below Hu_41.out (by simp)).cells 2 _ rfl
        have p3 := ((Blk.new w8 24 #[.int .i64 r.epoch, .int .i64 r.k, .slice A3 n3 c3, .slice A3' n3 d3]).below Hu_41.out (by simp)).cells 3 _ rfl
        simp only [List.getElem_toArray, List.getElem_cons_zero, List.getElem_cons_succ] at p0 p1 p2 p3
        go_wp2_with fail
        refine (HSU.out _ hW9.out Hw_37.out).mono ?_
        rintro e' w10 ⟨rfl, hb10⟩
        have Hw_42 := Lib.hid (Hw_37.out.trans (hb10.mono Hw_37.out.size))
        clear Hw_37
        have Hr_43 := Lib.hid (Hr_38.out.trans (hb10.mono Hr_38.out.size))
        clear Hr_38
        have Hb_44 := Lib.hid (Hb_39.out.trans (hb10.mono Hb_39.out.size))
        clear Hb_39
        have Hc_45 := Lib.hid (Hc_40.out.trans (hb10.mono Hc_40.out.size))
        clear Hc_40
        have Hu_46 := Lib.hid (Hu_41.out.trans (hb10.mono Hu_41.out.size))
        clear Hu_41
        clear hb10 q0 q1 q2 q3 p0 p1 p2 p3
        have q0 := ((Blk.new w 24 #[.int .i64 r.epoch, .int .i64 r.k, .slice A n c, .slice A' m d]).below Hr_43.out (by simp)).cells 0 _ rfl
        have q1 := ((Blk.new w 24 #[.int .i64 r.epoch, .int .i64 r.k, .slice A n c, .slice A' m d]).below Hr_43.out (by simp)).cells 1 _ rfl
        have q2 := ((Blk.new w 24 #[.int .i64 r.epoch, .int .i64 r.k, .slice A n c, .slice A' m d]).below Hr_43.out (by simp)).cells 2 _ rfl
        have q3 := ((Blk.new w 24 #[.int .i64 r.epoch, .int .i64 r.k, .slice A n c, .slice A' m d]).below Hr_43.out (by simp)).cells 3 _ rfl
        simp only [List.getElem_toArray, List.getElem_cons_zero, List.getElem_cons_succ] at q0 q1 q2 q3
        go_wp2_with fail
        refine (HCK.out _ Hw_42.out).mono ?_
        rintro e' w11 ⟨rfl, hb11⟩
        have Hw_47 := Lib.hid (Hw_42.out.trans (hb11.mono Hw_42.out.size))
        clear Hw_42
        have Hr_48 := Lib.hid (Hr_43.out.trans (hb11.mono Hr_43.out.size))
        clear Hr_43
        have Hb_49 := Lib.hid (Hb_44.out.trans (hb11.mono Hb_44.out.size))
        clear Hb_44
        have Hc_50 := Lib.hid (Hc_45.out.trans (hb11.mono Hc_45.out.size))
        clear Hc_45
        have Hu_51 := Lib.hid (Hu_46.out.trans (hb11.mono Hu_46.out.size))
        clear Hu_46
        clear hb11 q0 q1 q2 q3
        have q0 := ((Blk.new w5 24 #[.int .i64 bs.epoch, .int .i64 bs.k, .slice A2 n2 c2, .slice A2' n2 d2]).below Hc_50.out (by simp)).cells 0 _ rfl
        have q1 := ((Blk.new w5 24 #[.int .i64 bs.epoch, .int .i64 bs.k, .slice A2 n2 c2, .slice A2' n2 d2]).below Hc_50.out (by simp)).cells 1 _ rfl
        have q2 := ((Blk.new w5 24 #[.int .i64 bs.epoch, .int .i64 bs.k, .slice A2 n2 c2, .slice A2' n2 d2]).below Hc_50.out (by simp)).cells 2 _ rfl
        have q3 := ((Blk.new w5 24 #[.int .i64 bs.epoch, .int .i64 bs.k, .slice A2 n2 c2, .slice A2' n2 d2]).below Hc_50.out (by simp)).cells 3 _ rfl
        simp only [List.getElem_toArray, List.getElem_cons_zero, List.getElem_cons_succ] at q0 q1 q2 q3
        have hW11 := Lib.hid (hW5.out.trans (Hc_50.out.mono hW5.out.size))
        go_wp2_with fail
        refine (HSC.out _ hW11.out).mono ?_
        rintro e' w12 ⟨rfl, hb12⟩
        have Hw_52 := Lib.hid (Hw_47.out.trans (hb12.mono Hw_47.out.size))
        clear Hw_47
        have Hr_53 := Lib.hid (Hr_48.out.trans (hb12.mono Hr_48.out.size))
        clear Hr_48
        have Hb_54 := Lib.hid (Hb_49.out.trans (hb12.mono Hb_49.out.size))
        clear Hb_49
        have Hc_55 := Lib.hid (Hc_50.out.trans (hb12.mono Hc_50.out.size))
        clear Hc_50
        have Hu_56 := Lib.hid (Hu_51.out.trans (hb12.mono Hu_51.out.size))
        clear Hu_51
        clear hb12
        go_wp2_with (with_reducible refine end_at ?_)
        refine end_ret (v := .bool true) (by simp [results, Tryz.results3]) rfl ⟨rfl, Hw_52.out⟩
    · clear hu2
      rcases hfs with ⟨rfl, hpf⟩ | ⟨rfl, hz⟩
      · have HPF := Lib.hid hpf
        clear hpf
        unfold recV at HBI HPR HCK HHI ⊢
        have Hw_0 : Hid (Below w.heap.size w (w.alloc (.cells #[.int .i64 r.epoch, .int .i64 r.k, .slice A n c, .slice A' m d] 24))) := Lib.hid (by go_grown)
        have Hr_0 : Hid (Below (w.alloc (.cells #[.int .i64 r.epoch, .int .i64 r.k, .slice A n c, .slice A' m d] 24)).heap.size (w.alloc (.cells #[.int .i64 r.epoch, .int .i64 r.k, .slice A n c, .slice A' m d] 24)) (w.alloc (.cells #[.int .i64 r.epoch, .int .i64 r.k, .slice A n c, .slice A' m d] 24))) := Lib.hid (Below.refl _ _)
        go_enter Tryz.func3, Tryz.ntmps3
        go_wp2_with fail
        refine (HBI.out _ Hw_0.out).mono ?_
        rintro e' w1 ⟨rfl, hb1⟩
        have Hw_1 := Lib.hid (Hw_0.out.trans (hb1.mono Hw_0.out.size))
        clear Hw_0
        have Hr_2 := Lib.hid (Hr_0.out.trans (hb1.mono Hr_0.out.size))
        clear Hr_0
        clear hb1
        have q0 := ((Blk.new w 24 #[.int .i64 r.epoch, .int .i64 r.k, .slice A n c, .slice A' m d]).below Hr_2.out (by simp)).cells 0 _ rfl
        have q1 := ((Blk.new w 24 #[.int .i64 r.epoch, .int .i64 r.k, .slice A n c, .slice A' m d]).below Hr_2.out (by simp)).cells 1 _ rfl
        have q2 := ((Blk.new w 24 #[.int .i64 r.epoch, .int .i64 r.k, .slice A n c, .slice A' m d]).below Hr_2.out (by simp)).cells 2 _ rfl
        have q3 := ((Blk.new w 24 #[.int .i64 r.epoch, .int .i64 r.k, .slice A n c, .slice A' m d]).below Hr_2.out (by simp)).cells 3 _ rfl
        simp only [List.getElem_toArray, List.getElem_cons_zero, List.getElem_cons_succ] at q0 q1 q2 q3
        go_wp2_with fail
        refine (HPR.out _ Hw_1.out).mono ?_
        rintro e' w2 ⟨rfl, hb2⟩
        have Hw_3 := Lib.hid (Hw_1.out.trans (hb2.mono Hw_1.out.size))
        clear Hw_1
        have Hr_4 := Lib.hid (Hr_2.out.trans (hb2.mono Hr_2.out.size))
        clear Hr_2
        clear hb2 q0 q1 q2 q3
        go_wp2_with fail
        refine (HPA.out _ Hw_3.out).mono ?_
        rintro e' w3 ⟨A1, A1', n1, c1, d1, rfl, hn1, hp1, hl1, hm1, hb3⟩
        have Hw_5 := Lib.hid (Hw_3.out.trans (hb3.mono Hw_3.out.size))
        clear Hw_3
        have Hr_6 := Lib.hid (Hr_4.out.trans (hb3.mono Hr_4.out.size))
        clear Hr_4
        have hN1 := srow_slr hn1.out hl1
        have hP1 := srow_slr hp1.out hm1
        have HSA := Lib.hid (fun W (hW : Below w3.heap.size w3 W) (hV : Below w.heap.size w W) => rsame_any r r A1 A1' n1 c1 n1 d1 A A' n c m d W ((hN1.below hW).more hW.size) ((hP1.below hW).more hW.size) ((HN.out.below hV).more hV.size) ((HP.out.below hV).more hV.size) (by have := HB1S.out.1; omega) (by omega) (by have := HB1S.out.2; omega) (by omega))
        rw [HS1.out] at HSA
        have hW3 : Hid (Below w3.heap.size w3 (w3.alloc (.cells #[.int .i64 r.epoch, .int .i64 r.k, .slice A1 n1 c1, .slice A1' n1 d1] 24))) := Lib.hid (by go_grown)
        clear hb3 hn1 hp1 hN1 hP1
        unfold recV at HSA ⊢
        have Hw_7 : Hid (Below w.heap.size w (w3.alloc (.cells #[.int .i64 r.epoch, .int .i64 r.k, .slice A1 n1 c1, .slice A1' n1 d1] 24))) := Lib.hid (Hw_5.out.alloc Hw_5.out.size _)
        clear Hw_5
        have Hr_8 : Hid (Below (w.alloc (.cells #[.int .i64 r.epoch, .int .i64 r.k, .slice A n c, .slice A' m d] 24)).heap.size (w.alloc (.cells #[.int .i64 r.epoch, .int .i64 r.k, .slice A n c, .slice A' m d] 24)) (w3.alloc (.cells #[.int .i64 r.epoch, .int .i64 r.k, .slice A1 n1 c1, .slice A1' n1 d1] 24))) := Lib.hid (Hr_6.out.alloc Hr_6.out.size _)
        clear Hr_6
        have Hb_9 : Hid (Below (w3.alloc (.cells #[.int .i64 r.epoch, .int .i64 r.k, .slice A1 n1 c1, .slice A1' n1 d1] 24)).heap.size (w3.alloc (.cells #[.int .i64 r.epoch, .int .i64 r.k, .slice A1 n1 c1, .slice A1' n1 d1] 24)) (w3.alloc (.cells #[.int .i64 r.epoch, .int .i64 r.k, .slice A1 n1 c1, .slice A1' n1 d1] 24))) := Lib.hid (Below.refl _ _)
        have q0 := ((Blk.new w 24 #[.int .i64 r.epoch, .int .i64 r.k, .slice A n c, .slice A' m d]).below Hr_8.out (by simp)).cells 0 _ rfl
        have q1 := ((Blk.new w 24 #[.int .i64 r.epoch, .int .i64 r.k, .slice A n c, .slice A' m d]).below Hr_8.out (by simp)).cells 1 _ rfl
        have q2 := ((Blk.new w 24 #[.int .i64 r.epoch, .int .i64 r.k, .slice A n c, .slice A' m d]).below Hr_8.out (by simp)).cells 2 _ rfl
        have q3 := ((Blk.new w 24 #[.int .i64 r.epoch, .int .i64 r.k, .slice A n c, .slice A' m d]).below Hr_8.out (by simp)).cells 3 _ rfl
        simp only [List.getElem_toArray, List.getElem_cons_zero, List.getElem_cons_succ] at q0 q1 q2 q3
        go_wp2_with fail
        refine (HSA.out _ hW3.out Hw_7.out).mono ?_
        rintro e' w4 ⟨rfl, hb4⟩
        have Hw_10 := Lib.hid (Hw_7.out.trans (hb4.mono Hw_7.out.size))
        clear Hw_7
        have Hr_11 := Lib.hid (Hr_8.out.trans (hb4.mono Hr_8.out.size))
        clear Hr_8
        have Hb_12 := Lib.hid (Hb_9.out.trans (hb4.mono Hb_9.out.size))
        clear Hb_9
        clear hb4 HSA hW3 q0 q1 q2 q3
        go_wp2_with fail
        refine (HPS.out _ Hw_10.out).mono ?_
        rintro e' w5 ⟨A2, A2', n2, c2, d2, rfl, hn2, hp2, hl2, hm2, hb5⟩
        have Hw_13 := Lib.hid (Hw_10.out.trans (hb5.mono Hw_10.out.size))
        clear Hw_10
        have Hr_14 := Lib.hid (Hr_11.out.trans (hb5.mono Hr_11.out.size))
        clear Hr_11
        have Hb_15 := Lib.hid (Hb_12.out.trans (hb5.mono Hb_12.out.size))
        clear Hb_12
        have hN2 := srow_slr hn2.out hl2
        have hP2 := srow_slr hp2.out hm2
        have HPC := Lib.hid (fun W (hW : Below w5.heap.size w5 W) (hV : Below w.heap.size w W) => mprint_any bs A2 A2' n2 c2 n2 d2 W ((hN2.below hW).more hW.size) ((hP2.below hW).more hW.size) HBSZ.out.1 HBSZ.out.2 (HG.out.below hV))
        rw [HPF.out] at HPC
        have hW5 : Hid (Below w5.heap.size w5 (w5.alloc (.cells #[.int .i64 bs.epoch, .int .i64 bs.k, .slice A2 n2 c2, .slice A2' n2 d2] 24))) := Lib.hid (by go_grown)
        clear hb5 hn2 hp2 hN2 hP2
        unfold recV at HPC ⊢
        have Hw_16 : Hid (Below w.heap.size w (w5.alloc (.cells #[.int .i64 bs.epoch, .int .i64 bs.k, .slice A2 n2 c2, .slice A2' n2 d2] 24))) := Lib.hid (Hw_13.out.alloc Hw_13.out.size _)
        clear Hw_13
        have Hr_17 : Hid (Below (w.alloc (.cells #[.int .i64 r.epoch, .int .i64 r.k, .slice A n c, .slice A' m d] 24)).heap.size (w.alloc (.cells #[.int .i64 r.epoch, .int .i64 r.k, .slice A n c, .slice A' m d] 24)) (w5.alloc (.cells #[.int .i64 bs.epoch, .int .i64 bs.k, .slice A2 n2 c2, .slice A2' n2 d2] 24))) := Lib.hid (Hr_14.out.alloc Hr_14.out.size _)
        clear Hr_14
        have Hb_18 : Hid (Below (w3.alloc (.cells #[.int .i64 r.epoch, .int .i64 r.k, .slice A1 n1 c1, .slice A1' n1 d1] 24)).heap.size (w3.alloc (.cells #[.int .i64 r.epoch, .int .i64 r.k, .slice A1 n1 c1, .slice A1' n1 d1] 24)) (w5.alloc (.cells #[.int .i64 bs.epoch, .int .i64 bs.k, .slice A2 n2 c2, .slice A2' n2 d2] 24))) := Lib.hid (Hb_15.out.alloc Hb_15.out.size _)
        clear Hb_15
        have Hc_19 : Hid (Below (w5.alloc (.cells #[.int .i64 bs.epoch, .int .i64 bs.k, .slice A2 n2 c2, .slice A2' n2 d2] 24)).heap.size (w5.alloc (.cells #[.int .i64 bs.epoch, .int .i64 bs.k, .slice A2 n2 c2, .slice A2' n2 d2] 24)) (w5.alloc (.cells #[.int .i64 bs.epoch, .int .i64 bs.k, .slice A2 n2 c2, .slice A2' n2 d2] 24))) := Lib.hid (Below.refl _ _)
        go_wp2_with fail
        refine (HPC.out _ hW5.out Hw_16.out).mono ?_
        rintro e' w6 ⟨rfl, hb6⟩
        have Hw_20 := Lib.hid (Hw_16.out.trans (hb6.mono Hw_16.out.size))
        clear Hw_16
        have Hr_21 := Lib.hid (Hr_17.out.trans (hb6.mono Hr_17.out.size))
        clear Hr_17
        have Hb_22 := Lib.hid (Hb_18.out.trans (hb6.mono Hb_18.out.size))
        clear Hb_18
        have Hc_23 := Lib.hid (Hc_19.out.trans (hb6.mono Hc_19.out.size))
        clear Hc_19
        clear hb6 HPC
        have q0 := ((Blk.new w 24 #[.int .i64 r.epoch, .int .i64 r.k, .slice A n c, .slice A' m d]).below Hr_21.out (by simp)).cells 0 _ rfl
        have q1 := ((Blk.new w 24 #[.int .i64 r.epoch, .int .i64 r.k, .slice A n c, .slice A' m d]).below Hr_21.out (by simp)).cells 1 _ rfl
        have q2 := ((Blk.new w 24 #[.int .i64 r.epoch, .int .i64 r.k, .slice A n c, .slice A' m d]).below Hr_21.out (by simp)).cells 2 _ rfl
        have q3 := ((Blk.new w 24 #[.int .i64 r.epoch, .int .i64 r.k, .slice A n c, .slice A' m d]).below Hr_21.out (by simp)).cells 3 _ rfl
        simp only [List.getElem_toArray, List.getElem_cons_zero, List.getElem_cons_succ] at q0 q1 q2 q3
        go_wp2_with fail
        refine (HHI.out _ Hw_20.out).mono ?_
        rintro e' w7 ⟨rfl, hb7⟩
        have Hw_24 := Lib.hid (Hw_20.out.trans (hb7.mono Hw_20.out.size))
        clear Hw_20
        have Hr_25 := Lib.hid (Hr_21.out.trans (hb7.mono Hr_21.out.size))
        clear Hr_21
        have Hb_26 := Lib.hid (Hb_22.out.trans (hb7.mono Hb_22.out.size))
        clear Hb_22
        have Hc_27 := Lib.hid (Hc_23.out.trans (hb7.mono Hc_23.out.size))
        clear Hc_23
        clear hb7 q0 q1 q2 q3
        go_wp2_with fail
        refine (HSH.out _ Hw_24.out).mono ?_
        rintro e' w8 ⟨A3, A3', n3, c3, d3, rfl, hn3, hp3, hl3, hm3, hb8⟩
        have Hw_28 := Lib.hid (Hw_24.out.trans (hb8.mono Hw_24.out.size))
        clear Hw_24
        have Hr_29 := Lib.hid (Hr_25.out.trans (hb8.mono Hr_25.out.size))
        clear Hr_25
        have Hb_30 := Lib.hid (Hb_26.out.trans (hb8.mono Hb_26.out.size))
        clear Hb_26
        have Hc_31 := Lib.hid (Hc_27.out.trans (hb8.mono Hc_27.out.size))
        clear Hc_27
        clear hb8 hn3 hp3
        unfold recV
        have Hw_32 : Hid (Below w.heap.size w (w8.alloc (.cells #[.int .i64 u.epoch, .int .i64 u.k, .slice A3 n3 c3, .slice A3' n3 d3] 24))) := Lib.hid (Hw_28.out.alloc Hw_28.out.size _)
        clear Hw_28
        have Hr_33 : Hid (Below (w.alloc (.cells #[.int .i64 r.epoch, .int .i64 r.k, .slice A n c, .slice A' m d] 24)).heap.size (w.alloc (.cells #[.int .i64 r.epoch, .int .i64 r.k, .slice A n c, .slice A' m d] 24)) (w8.alloc (.cells #[.int .i64 u.epoch, .int .i64 u.k, .slice A3 n3 c3, .slice A3' n3 d3] 24))) := Lib.hid (Hr_29.out.alloc Hr_29.out.size _)
        clear Hr_29
        have Hb_34 : Hid (Below (w3.alloc (.cells #[.int .i64 r.epoch, .int .i64 r.k, .slice A1 n1 c1, .slice A1' n1 d1] 24)).heap.size (w3.alloc (.cells #[.int .i64 r.epoch, .int .i64 r.k, .slice A1 n1 c1, .slice A1' n1 d1] 24)) (w8.alloc (.cells #[.int .i64 u.epoch, .int .i64 u.k, .slice A3 n3 c3, .slice A3' n3 d3] 24))) := Lib.hid (Hb_30.out.alloc Hb_30.out.size _)
        clear Hb_30
        have Hc_35 : Hid (Below (w5.alloc (.cells #[.int .i64 bs.epoch, .int .i64 bs.k, .slice A2 n2 c2, .slice A2' n2 d2] 24)).heap.size (w5.alloc (.cells #[.int .i64 bs.epoch, .int .i64 bs.k, .slice A2 n2 c2, .slice A2' n2 d2] 24)) (w8.alloc (.cells #[.int .i64 u.epoch, .int .i64 u.k, .slice A3 n3 c3, .slice A3' n3 d3] 24))) := Lib.hid (Hc_31.out.alloc Hc_31.out.size _)
        clear Hc_31
        have Hu_36 : Hid (Below (w8.alloc (.cells #[.int .i64 u.epoch, .int .i64 u.k, .slice A3 n3 c3, .slice A3' n3 d3] 24)).heap.size (w8.alloc (.cells #[.int .i64 u.epoch, .int .i64 u.k, .slice A3 n3 c3, .slice A3' n3 d3] 24)) (w8.alloc (.cells #[.int .i64 u.epoch, .int .i64 u.k, .slice A3 n3 c3, .slice A3' n3 d3] 24))) := Lib.hid (Below.refl _ _)
        go_wp2_with fail
        refine (HME.out _ Hw_32.out).mono ?_
        rintro e' w9 ⟨rfl, hb9⟩
        have Hw_37 := Lib.hid (Hw_32.out.trans (hb9.mono Hw_32.out.size))
        clear Hw_32
        have Hr_38 := Lib.hid (Hr_33.out.trans (hb9.mono Hr_33.out.size))
        clear Hr_33
        have Hb_39 := Lib.hid (Hb_34.out.trans (hb9.mono Hb_34.out.size))
        clear Hb_34
        have Hc_40 := Lib.hid (Hc_35.out.trans (hb9.mono Hc_35.out.size))
        clear Hc_35
        have Hu_41 := Lib.hid (Hu_36.out.trans (hb9.mono Hu_36.out.size))
        clear Hu_36
        clear hb9
        have q0 := ((Blk.new w 24 #[.int .i64 r.epoch, .int .i64 r.k, .slice A n c, .slice A' m d]).below Hr_38.out (by simp)).cells 0 _ rfl
        have q1 := ((Blk.new w 24 #[.int .i64 r.epoch, .int .i64 r.k, .slice A n c, .slice A' m d]).below Hr_38.out (by simp)).cells 1 _ rfl
        have q2 := ((Blk.new w 24 #[.int .i64 r.epoch, .int .i64 r.k, .slice A n c, .slice A' m d]).below Hr_38.out (by simp)).cells 2 _ rfl
        have q3 := ((Blk.new w 24 #[.int .i64 r.epoch, .int .i64 r.k, .slice A n c, .slice A' m d]).below Hr_38.out (by simp)).cells 3 _ rfl
        simp only [List.getElem_toArray, List.getElem_cons_zero, List.getElem_cons_succ] at q0 q1 q2 q3
        go_wp2_with fail
        refine (HCK.out _ Hw_37.out).mono ?_
        rintro e' w11 ⟨rfl, hb11⟩
        have Hw_42 := Lib.hid (Hw_37.out.trans (hb11.mono Hw_37.out.size))
        clear Hw_37
        have Hr_43 := Lib.hid (Hr_38.out.trans (hb11.mono Hr_38.out.size))
        clear Hr_38
        have Hb_44 := Lib.hid (Hb_39.out.trans (hb11.mono Hb_39.out.size))
        clear Hb_39
        have Hc_45 := Lib.hid (Hc_40.out.trans (hb11.mono Hc_40.out.size))
        clear Hc_40
        have Hu_46 := Lib.hid (Hu_41.out.trans (hb11.mono Hu_41.out.size))
        clear Hu_41
        clear hb11 q0 q1 q2 q3
        go_wp2_with (with_reducible refine end_at ?_)
        refine end_ret (v := .bool true) (by simp [results, Tryz.results3]) rfl ⟨rfl, Hw_42.out⟩
      · have HSZ := Lib.hid hz
        skip
        clear hz
        unfold recV at HBI HPR HCK HHI ⊢
        have Hw_0 : Hid (Below w.heap.size w (w.alloc (.cells #[.int .i64 r.epoch, .int .i64 r.k, .slice A n c, .slice A' m d] 24))) := Lib.hid (by go_grown)
        have Hr_0 : Hid (Below (w.alloc (.cells #[.int .i64 r.epoch, .int .i64 r.k, .slice A n c, .slice A' m d] 24)).heap.size (w.alloc (.cells #[.int .i64 r.epoch, .int .i64 r.k, .slice A n c, .slice A' m d] 24)) (w.alloc (.cells #[.int .i64 r.epoch, .int .i64 r.k, .slice A n c, .slice A' m d] 24))) := Lib.hid (Below.refl _ _)
        go_enter Tryz.func3, Tryz.ntmps3
        go_wp2_with fail
        refine (HBI.out _ Hw_0.out).mono ?_
        rintro e' w1 ⟨rfl, hb1⟩
        have Hw_1 := Lib.hid (Hw_0.out.trans (hb1.mono Hw_0.out.size))
        clear Hw_0
        have Hr_2 := Lib.hid (Hr_0.out.trans (hb1.mono Hr_0.out.size))
        clear Hr_0
        clear hb1
        have q0 := ((Blk.new w 24 #[.int .i64 r.epoch, .int .i64 r.k, .slice A n c, .slice A' m d]).below Hr_2.out (by simp)).cells 0 _ rfl
        have q1 := ((Blk.new w 24 #[.int .i64 r.epoch, .int .i64 r.k, .slice A n c, .slice A' m d]).below Hr_2.out (by simp)).cells 1 _ rfl
        have q2 := ((Blk.new w 24 #[.int .i64 r.epoch, .int .i64 r.k, .slice A n c, .slice A' m d]).below Hr_2.out (by simp)).cells 2 _ rfl
        have q3 := ((Blk.new w 24 #[.int .i64 r.epoch, .int .i64 r.k, .slice A n c, .slice A' m d]).below Hr_2.out (by simp)).cells 3 _ rfl
        simp only [List.getElem_toArray, List.getElem_cons_zero, List.getElem_cons_succ] at q0 q1 q2 q3
        go_wp2_with fail
        refine (HPR.out _ Hw_1.out).mono ?_
        rintro e' w2 ⟨rfl, hb2⟩
        have Hw_3 := Lib.hid (Hw_1.out.trans (hb2.mono Hw_1.out.size))
        clear Hw_1
        have Hr_4 := Lib.hid (Hr_2.out.trans (hb2.mono Hr_2.out.size))
        clear Hr_2
        clear hb2 q0 q1 q2 q3
        go_wp2_with fail
        refine (HPA.out _ Hw_3.out).mono ?_
        rintro e' w3 ⟨A1, A1', n1, c1, d1, rfl, hn1, hp1, hl1, hm1, hb3⟩
        have Hw_5 := Lib.hid (Hw_3.out.trans (hb3.mono Hw_3.out.size))
        clear Hw_3
        have Hr_6 := Lib.hid (Hr_4.out.trans (hb3.mono Hr_4.out.size))
        clear Hr_4
        have hN1 := srow_slr hn1.out hl1
        have hP1 := srow_slr hp1.out hm1
        have HSA := Lib.hid (fun W (hW : Below w3.heap.size w3 W) (hV : Below w.heap.size w W) => rsame_any r r A1 A1' n1 c1 n1 d1 A A' n c m d W ((hN1.below hW).more hW.size) ((hP1.below hW).more hW.size) ((HN.out.below hV).more hV.size) ((HP.out.below hV).more hV.size) (by have := HB1S.out.1; omega) (by omega) (by have := HB1S.out.2; omega) (by omega))
        rw [HS1.out] at HSA
        have hW3 : Hid (Below w3.heap.size w3 (w3.alloc (.cells #[.int .i64 r.epoch, .int .i64 r.k, .slice A1 n1 c1, .slice A1' n1 d1] 24))) := Lib.hid (by go_grown)
        clear hb3 hn1 hp1 hN1 hP1
        unfold recV at HSA ⊢
        have Hw_7 : Hid (Below w.heap.size w (w3.alloc (.cells #[.int .i64 r.epoch, .int .i64 r.k, .slice A1 n1 c1, .slice A1' n1 d1] 24))) := Lib.hid (Hw_5.out.alloc Hw_5.out.size _)
        clear Hw_5
        have Hr_8 : Hid (Below (w.alloc (.cells #[.int .i64 r.epoch, .int .i64 r.k, .slice A n c, .slice A' m d] 24)).heap.size (w.alloc (.cells #[.int .i64 r.epoch, .int .i64 r.k, .slice A n c, .slice A' m d] 24)) (w3.alloc (.cells #[.int .i64 r.epoch, .int .i64 r.k, .slice A1 n1 c1, .slice A1' n1 d1] 24))) := Lib.hid (Hr_6.out.alloc Hr_6.out.size _)
        clear Hr_6
        have Hb_9 : Hid (Below (w3.alloc (.cells #[.int .i64 r.epoch, .int .i64 r.k, .slice A1 n1 c1, .slice A1' n1 d1] 24)).heap.size (w3.alloc (.cells #[.int .i64 r.epoch, .int .i64 r.k, .slice A1 n1 c1, .slice A1' n1 d1] 24)) (w3.alloc (.cells #[.int .i64 r.epoch, .int .i64 r.k, .slice A1 n1 c1, .slice A1' n1 d1] 24))) := Lib.hid (Below.refl _ _)
        have q0 := ((Blk.new w 24 #[.int .i64 r.epoch, .int .i64 r.k, .slice A n c, .slice A' m d]).below Hr_8.out (by simp)).cells 0 _ rfl
        have q1 := ((Blk.new w 24 #[.int .i64 r.epoch, .int .i64 r.k, .slice A n c, .slice A' m d]).below Hr_8.out (by simp)).cells 1 _ rfl
        have q2 := ((Blk.new w 24 #[.int .i64 r.epoch, .int .i64 r.k, .slice A n c, .slice A' m d]).below Hr_8.out (by simp)).cells 2 _ rfl
        have q3 := ((Blk.new w 24 #[.int .i64 r.epoch, .int .i64 r.k, .slice A n c, .slice A' m d]).below Hr_8.out (by simp)).cells 3 _ rfl
        simp only [List.getElem_toArray, List.getElem_cons_zero, List.getElem_cons_succ] at q0 q1 q2 q3
        go_wp2_with fail
        refine (HSA.out _ hW3.out Hw_7.out).mono ?_
        rintro e' w4 ⟨rfl, hb4⟩
        have Hw_10 := Lib.hid (Hw_7.out.trans (hb4.mono Hw_7.out.size))
        clear Hw_7
        have Hr_11 := Lib.hid (Hr_8.out.trans (hb4.mono Hr_8.out.size))
        clear Hr_8
        have Hb_12 := Lib.hid (Hb_9.out.trans (hb4.mono Hb_9.out.size))
        clear Hb_9
        clear hb4 HSA hW3 q0 q1 q2 q3
        go_wp2_with fail
        refine (HPS.out _ Hw_10.out).mono ?_
        rintro e' w5 ⟨A2, A2', n2, c2, d2, rfl, hn2, hp2, hl2, hm2, hb5⟩
        have Hw_13 := Lib.hid (Hw_10.out.trans (hb5.mono Hw_10.out.size))
        clear Hw_10
        have Hr_14 := Lib.hid (Hr_11.out.trans (hb5.mono Hr_11.out.size))
        clear Hr_11
        have Hb_15 := Lib.hid (Hb_12.out.trans (hb5.mono Hb_12.out.size))
        clear Hb_12
        have hN2 := srow_slr hn2.out hl2
        have hP2 := srow_slr hp2.out hm2
        have HPC := Lib.hid (fun W (hW : Below w5.heap.size w5 W) (hV : Below w.heap.size w W) => mprint_any bs A2 A2' n2 c2 n2 d2 W ((hN2.below hW).more hW.size) ((hP2.below hW).more hW.size) HBSZ.out.1 HBSZ.out.2 (HG.out.below hV))
        have hW5 : Hid (Below w5.heap.size w5 (w5.alloc (.cells #[.int .i64 bs.epoch, .int .i64 bs.k, .slice A2 n2 c2, .slice A2' n2 d2] 24))) := Lib.hid (by go_grown)
        have HSC := Lib.hid (fun W (hW : Below w5.heap.size w5 W) => rsame_any bs noRec A2 A2' n2 c2 n2 d2 none none 0 0 0 0 W ((hN2.below hW).more hW.size) ((hP2.below hW).more hW.size) (srow_slr (srow_nil W 0) rfl) (srow_slr (srow_nil W 0) rfl) (by have := HBSL.out.1; omega) (by omega) (by have := HBSL.out.2; omega) (by omega))
        rw [HSZ.out] at HSC
        clear hb5 hn2 hp2 hN2 hP2
        unfold recV at HPC HSC ⊢
        have Hw_16 : Hid (Below w.heap.size w (w5.alloc (.cells #[.int .i64 bs.epoch, .int .i64 bs.k, .slice A2 n2 c2, .slice A2' n2 d2] 24))) := Lib.hid (Hw_13.out.alloc Hw_13.out.size _)
        clear Hw_13
        have Hr_17 : Hid (Below (w.alloc (.cells #[.int .i64 r.epoch, .int .i64 r.k, .slice A n c, .slice A' m d] 24)).heap.size (w.alloc (.cells #[.int .i64 r.epoch, .int .i64 r.k, .slice A n c, .slice A' m d] 24)) (w5.alloc (.cells #[.int .i64 bs.epoch, .int .i64 bs.k, .slice A2 n2 c2, .slice A2' n2 d2] 24))) := Lib.hid (Hr_14.out.alloc Hr_14.out.size _)
        clear Hr_14
        have Hb_18 : Hid (Below (w3.alloc (.cells #[.int .i64 r.epoch, .int .i64 r.k, .slice A1 n1 c1, .slice A1' n1 d1] 24)).heap.size (w3.alloc (.cells #[.int .i64 r.epoch, .int .i64 r.k, .slice A1 n1 c1, .slice A1' n1 d1] 24)) (w5.alloc (.cells #[.int .i64 bs.epoch, .int .i64 bs.k, .slice A2 n2 c2, .slice A2' n2 d2] 24))) := Lib.hid (Hb_15.out.alloc Hb_15.out.size _)
        clear Hb_15
        have Hc_19 : Hid (Below (w5.alloc (.cells #[.int .i64 bs.epoch, .int .i64 bs.k, .slice A2 n2 c2, .slice A2' n2 d2] 24)).heap.size (w5.alloc (.cells #[.int .i64 bs.epoch, .int .i64 bs.k, .slice A2 n2 c2, .slice A2' n2 d2] 24)) (w5.alloc (.cells #[.int .i64 bs.epoch, .int .i64 bs.k, .slice A2 n2 c2, .slice A2' n2 d2] 24))) := Lib.hid (Below.refl _ _)
        go_wp2_with fail
        refine (HPC.out _ hW5.out Hw_16.out).mono ?_
        rintro e' w6 ⟨rfl, hb6⟩
        have Hw_20 := Lib.hid (Hw_16.out.trans (hb6.mono Hw_16.out.size))
        clear Hw_16
        have Hr_21 := Lib.hid (Hr_17.out.trans (hb6.mono Hr_17.out.size))
        clear Hr_17
        have Hb_22 := Lib.hid (Hb_18.out.trans (hb6.mono Hb_18.out.size))
        clear Hb_18
        have Hc_23 := Lib.hid (Hc_19.out.trans (hb6.mono Hc_19.out.size))
        clear Hc_19
        clear hb6 HPC
        have q0 := ((Blk.new w 24 #[.int .i64 r.epoch, .int .i64 r.k, .slice A n c, .slice A' m d]).below Hr_21.out (by simp)).cells 0 _ rfl
        have q1 := ((Blk.new w 24 #[.int .i64 r.epoch, .int .i64 r.k, .slice A n c, .slice A' m d]).below Hr_21.out (by simp)).cells 1 _ rfl
        have q2 := ((Blk.new w 24 #[.int .i64 r.epoch, .int .i64 r.k, .slice A n c, .slice A' m d]).below Hr_21.out (by simp)).cells 2 _ rfl
        have q3 := ((Blk.new w 24 #[.int .i64 r.epoch, .int .i64 r.k, .slice A n c, .slice A' m d]).below Hr_21.out (by simp)).cells 3 _ rfl
        simp only [List.getElem_toArray, List.getElem_cons_zero, List.getElem_cons_succ] at q0 q1 q2 q3
        go_wp2_with fail
        refine (HHI.out _ Hw_20.out).mono ?_
        rintro e' w7 ⟨rfl, hb7⟩
        have Hw_24 := Lib.hid (Hw_20.out.trans (hb7.mono Hw_20.out.size))
        clear Hw_20
        have Hr_25 := Lib.hid (Hr_21.out.trans (hb7.mono Hr_21.out.size))
        clear Hr_21
        have Hb_26 := Lib.hid (Hb_22.out.trans (hb7.mono Hb_22.out.size))
        clear Hb_22
        have Hc_27 := Lib.hid (Hc_23.out.trans (hb7.mono Hc_23.out.size))
        clear Hc_23
        clear hb7 q0 q1 q2 q3
        go_wp2_with fail
        refine (HSH.out _ Hw_24.out).mono ?_
        rintro e' w8 ⟨A3, A3', n3, c3, d3, rfl, hn3, hp3, hl3, hm3, hb8⟩
        have Hw_28 := Lib.hid (Hw_24.out.trans (hb8.mono Hw_24.out.size))
        clear Hw_24
        have Hr_29 := Lib.hid (Hr_25.out.trans (hb8.mono Hr_25.out.size))
        clear Hr_25
        have Hb_30 := Lib.hid (Hb_26.out.trans (hb8.mono Hb_26.out.size))
        clear Hb_26
        have Hc_31 := Lib.hid (Hc_27.out.trans (hb8.mono Hc_27.out.size))
        clear Hc_27
        clear hb8 hn3 hp3
        unfold recV
        have Hw_32 : Hid (Below w.heap.size w (w8.alloc (.cells #[.int .i64 u.epoch, .int .i64 u.k, .slice A3 n3 c3, .slice A3' n3 d3] 24))) := Lib.hid (Hw_28.out.alloc Hw_28.out.size _)
        clear Hw_28
        have Hr_33 : Hid (Below (w.alloc (.cells #[.int .i64 r.epoch, .int .i64 r.k, .slice A n c, .slice A' m d] 24)).heap.size (w.alloc (.cells #[.int .i64 r.epoch, .int .i64 r.k, .slice A n c, .slice A' m d] 24)) (w8.alloc (.cells #[.int .i64 u.epoch, .int .i64 u.k, .slice A3 n3 c3, .slice A3' n3 d3] 24))) := Lib.hid (Hr_29.out.alloc Hr_29.out.size _)
        clear Hr_29
        have Hb_34 : Hid (Below (w3.alloc (.cells #[.int .i64 r.epoch, .int .i64 r.k, .slice A1 n1 c1, .slice A1' n1 d1] 24)).heap.size (w3.alloc (.cells #[.int .i64 r.epoch, .int .i64 r.k, .slice A1 n1 c1, .slice A1' n1 d1] 24)) (w8.alloc (.cells #[.int .i64 u.epoch, .int .i64 u.k, .slice A3 n3 c3, .slice A3' n3 d3] 24))) := Lib.hid (Hb_30.out.alloc Hb_30.out.size _)
        clear Hb_30
        have Hc_35 : Hid (Below (w5.alloc (.cells #[.int .i64 bs.epoch, .int .i64 bs.k, .slice A2 n2 c2, .slice A2' n2 d2] 24)).heap.size (w5.alloc (.cells #[.int .i64 bs.epoch, .int .i64 bs.k, .slice A2 n2 c2, .slice A2' n2 d2] 24)) (w8.alloc (.cells #[.int .i64 u.epoch, .int .i64 u.k, .slice A3 n3 c3, .slice A3' n3 d3] 24))) := Lib.hid (Hc_31.out.alloc Hc_31.out.size _)
        clear Hc_31
        have Hu_36 : Hid (Below (w8.alloc (.cells #[.int .i64 u.epoch, .int .i64 u.k, .slice A3 n3 c3, .slice A3' n3 d3] 24)).heap.size (w8.alloc (.cells #[.int .i64 u.epoch, .int .i64 u.k, .slice A3 n3 c3, .slice A3' n3 d3] 24)) (w8.alloc (.cells #[.int .i64 u.epoch, .int .i64 u.k, .slice A3 n3 c3, .slice A3' n3 d3] 24))) := Lib.hid (Below.refl _ _)
        go_wp2_with fail
        refine (HME.out _ Hw_32.out).mono ?_
        rintro e' w9 ⟨rfl, hb9⟩
        have Hw_37 := Lib.hid (Hw_32.out.trans (hb9.mono Hw_32.out.size))
        clear Hw_32
        have Hr_38 := Lib.hid (Hr_33.out.trans (hb9.mono Hr_33.out.size))
        clear Hr_33
        have Hb_39 := Lib.hid (Hb_34.out.trans (hb9.mono Hb_34.out.size))
        clear Hb_34
        have Hc_40 := Lib.hid (Hc_35.out.trans (hb9.mono Hc_35.out.size))
        clear Hc_35
        have Hu_41 := Lib.hid (Hu_36.out.trans (hb9.mono Hu_36.out.size))
        clear Hu_36
        clear hb9
        have q0 := ((Blk.new w 24 #[.int .i64 r.epoch, .int .i64 r.k, .slice A n c, .slice A' m d]).below Hr_38.out (by simp)).cells 0 _ rfl
        have q1 := ((Blk.new w 24 #[.int .i64 r.epoch, .int .i64 r.k, .slice A n c, .slice A' m d]).below Hr_38.out (by simp)).cells 1 _ rfl
        have q2 := ((Blk.new w 24 #[.int .i64 r.epoch, .int .i64 r.k, .slice A n c, .slice A' m d]).below Hr_38.out (by simp)).cells 2 _ rfl
        have q3 := ((Blk.new w 24 #[.int .i64 r.epoch, .int .i64 r.k, .slice A n c, .slice A' m d]).below Hr_38.out (by simp)).cells 3 _ rfl
        simp only [List.getElem_toArray, List.getElem_cons_zero, List.getElem_cons_succ] at q0 q1 q2 q3
        go_wp2_with fail
        refine (HCK.out _ Hw_37.out).mono ?_
        rintro e' w11 ⟨rfl, hb11⟩
        have Hw_42 := Lib.hid (Hw_37.out.trans (hb11.mono Hw_37.out.size))
        clear Hw_37
        have Hr_43 := Lib.hid (Hr_38.out.trans (hb11.mono Hr_38.out.size))
        clear Hr_38
        have Hb_44 := Lib.hid (Hb_39.out.trans (hb11.mono Hb_39.out.size))
        clear Hb_39
        have Hc_45 := Lib.hid (Hc_40.out.trans (hb11.mono Hc_40.out.size))
        clear Hc_40
        have Hu_46 := Lib.hid (Hu_41.out.trans (hb11.mono Hu_41.out.size))
        clear Hu_41
        clear hb11 q0 q1 q2 q3
        have q0 := ((Blk.new w5 24 #[.int .i64 bs.epoch, .int .i64 bs.k, .slice A2 n2 c2, .slice A2' n2 d2]).below Hc_45.out (by simp)).cells 0 _ rfl
        have q1 := ((Blk.new w5 24 #[.int .i64 bs.epoch, .int .i64 bs.k, .slice A2 n2 c2, .slice A2' n2 d2]).below Hc_45.out (by simp)).cells 1 _ rfl
        have q2 := ((Blk.new w5 24 #[.int .i64 bs.epoch, .int .i64 bs.k, .slice A2 n2 c2, .slice A2' n2 d2]).below Hc_45.out (by simp)).cells 2 _ rfl
        have q3 := ((Blk.new w5 24 #[.int .i64 bs.epoch, .int .i64 bs.k, .slice A2 n2 c2, .slice A2' n2 d2]).below Hc_45.out (by simp)).cells 3 _ rfl
        simp only [List.getElem_toArray, List.getElem_cons_zero, List.getElem_cons_succ] at q0 q1 q2 q3
        have hW11 := Lib.hid (hW5.out.trans (Hc_45.out.mono hW5.out.size))
        go_wp2_with fail
        refine (HSC.out _ hW11.out).mono ?_
        rintro e' w12 ⟨rfl, hb12⟩
        have Hw_47 := Lib.hid (Hw_42.out.trans (hb12.mono Hw_42.out.size))
        clear Hw_42
        have Hr_48 := Lib.hid (Hr_43.out.trans (hb12.mono Hr_43.out.size))
        clear Hr_43
        have Hb_49 := Lib.hid (Hb_44.out.trans (hb12.mono Hb_44.out.size))
        clear Hb_44
        have Hc_50 := Lib.hid (Hc_45.out.trans (hb12.mono Hc_45.out.size))
        clear Hc_45
        have Hu_51 := Lib.hid (Hu_46.out.trans (hb12.mono Hu_46.out.size))
        clear Hu_46
        clear hb12
        go_wp2_with (with_reducible refine end_at ?_)
        refine end_ret (v := .bool true) (by simp [results, Tryz.results3]) rfl ⟨rfl, Hw_47.out⟩
  · have hC : checkB r = false := by
      cases h : checkB r with
      | false => rfl
      | true => rw [h] at hck0; exact absurd hck0 he
    have hi : i = 180 := hu3 hC
    have he2 : e = 180 := by rw [hC] at hck0; exact hck0
    subst hi he2
    rw [hC] at HCK
    clear hck0 hu2 hu3 hb1 he hC
    rcases hfs with ⟨rfl, hpf⟩ | ⟨rfl, hz⟩
    · have HPF := Lib.hid hpf
      clear hpf
      unfold recV at HBI HPR HCK HHI ⊢
      have Hw_0 : Hid (Below w.heap.size w (w.alloc (.cells #[.int .i64 r.epoch, .int .i64 r.k, .slice A n c, .slice A' m d] 24))) := Lib.hid (by go_grown)
      have Hr_0 : Hid (Below (w.alloc (.cells #[.int .i64 r.epoch, .int .i64 r.k, .slice A n c, .slice A' m d] 24)).heap.size (w.alloc (.cells #[.int .i64 r.epoch, .int .i64 r.k, .slice A n c, .slice A' m d] 24)) (w.alloc (.cells #[.int .i64 r.epoch, .int .i64 r.k, .slice A n c, .slice A' m d] 24))) := Lib.hid (Below.refl _ _)
      go_enter Tryz.func3, Tryz.ntmps3
      go_wp2_with fail
      refine (HBI.out _ Hw_0.out).mono ?_
      rintro e' w1 ⟨rfl, hb1⟩
      have Hw_1 := Lib.hid (Hw_0.out.trans (hb1.mono Hw_0.out.size))
      clear Hw_0
      have Hr_2 := Lib.hid (Hr_0.out.trans (hb1.mono Hr_0.out.size))
      clear Hr_0
      clear hb1
      have q0 := ((Blk.new w 24 #[.int .i64 r.epoch, .int .i64 r.k, .slice A n c, .slice A' m d]).below Hr_2.out (by simp)).cells 0 _ rfl
      have q1 := ((Blk.new w 24 #[.int .i64 r.epoch, .int .i64 r.k, .slice A n c, .slice A' m d]).below Hr_2.out (by simp)).cells 1 _ rfl
      have q2 := ((Blk.new w 24 #[.int .i64 r.epoch, .int .i64 r.k, .slice A n c, .slice A' m d]).below Hr_2.out (by simp)).cells 2 _ rfl
      have q3 := ((Blk.new w 24 #[.int .i64 r.epoch, .int .i64 r.k, .slice A n c, .slice A' m d]).below Hr_2.out (by simp)).cells 3 _ rfl
      simp only [List.getElem_toArray, List.getElem_cons_zero, List.getElem_cons_succ] at q0 q1 q2 q3
      go_wp2_with fail
      refine (HPR.out _ Hw_1.out).mono ?_
      rintro e' w2 ⟨rfl, hb2⟩
      have Hw_3 := Lib.hid (Hw_1.out.trans (hb2.mono Hw_1.out.size))
      clear Hw_1
      have Hr_4 := Lib.hid (Hr_2.out.trans (hb2.mono Hr_2.out.size))
      clear Hr_2
      clear hb2 q0 q1 q2 q3
      go_wp2_with fail
      refine (HPA.out _ Hw_3.out).mono ?_
      rintro e' w3 ⟨A1, A1', n1, c1, d1, rfl, hn1, hp1, hl1, hm1, hb3⟩
      have Hw_5 := Lib.hid (Hw_3.out.trans (hb3.mono Hw_3.out.size))
      clear Hw_3
      have Hr_6 := Lib.hid (Hr_4.out.trans (hb3.mono Hr_4.out.size))
      clear Hr_4
      have hN1 := srow_slr hn1.out hl1
      have hP1 := srow_slr hp1.out hm1
      clear hb3 hn1 hp1 hN1 hP1
      unfold recV
      have Hw_7 : Hid (Below w.heap.size w (w3.alloc (.cells #[.int .i64 b1.epoch, .int .i64 b1.k, .slice A1 n1 c1, .slice A1' n1 d1] 24))) := Lib.hid (Hw_5.out.alloc Hw_5.out.size _)
      clear Hw_5
      have Hr_8 : Hid (Below (w.alloc (.cells #[.int .i64 r.epoch, .int .i64 r.k, .slice A n c, .slice A' m d] 24)).heap.size (w.alloc (.cells #[.int .i64 r.epoch, .int .i64 r.k, .slice A n c, .slice A' m d] 24)) (w3.alloc (.cells #[.int .i64 b1.epoch, .int .i64 b1.k, .slice A1 n1 c1, .slice A1' n1 d1] 24))) := Lib.hid (Hr_6.out.alloc Hr_6.out.size _)
      clear Hr_6
      have Hb_9 : Hid (Below (w3.alloc (.cells #[.int .i64 b1.epoch, .int .i64 b1.k, .slice A1 n1 c1, .slice A1' n1 d1] 24)).heap.size (w3.alloc (.cells #[.int .i64 b1.epoch, .int .i64 b1.k, .slice A1 n1 c1, .slice A1' n1 d1] 24)) (w3.alloc (.cells #[.int .i64 b1.epoch, .int .i64 b1.k, .slice A1 n1 c1, .slice A1' n1 d1] 24))) := Lib.hid (Below.refl _ _)
      have q0 := ((Blk.new w 24 #[.int .i64 r.epoch, .int .i64 r.k, .slice A n c, .slice A' m d]).below Hr_8.out (by simp)).cells 0 _ rfl
      have q1 := ((Blk.new w 24 #[.int .i64 r.epoch, .int .i64 r.k, .slice A n c, .slice A' m d]).below Hr_8.out (by simp)).cells 1 _ rfl
      have q2 := ((Blk.new w 24 #[.int .i64 r.epoch, .int .i64 r.k, .slice A n c, .slice A' m d]).below Hr_8.out (by simp)).cells 2 _ rfl
      have q3 := ((Blk.new w 24 #[.int .i64 r.epoch, .int .i64 r.k, .slice A n c, .slice A' m d]).below Hr_8.out (by simp)).cells 3 _ rfl
      simp only [List.getElem_toArray, List.getElem_cons_zero, List.getElem_cons_succ] at q0 q1 q2 q3
      go_wp2_with fail
      clear q0 q1 q2 q3
      refine (HPS.out _ Hw_7.out).mono ?_
      rintro e' w5 ⟨A2, A2', n2, c2, d2, rfl, hn2, hp2, hl2, hm2, hb5⟩
      have Hw_10 := Lib.hid (Hw_7.out.trans (hb5.mono Hw_7.out.size))
      clear Hw_7
      have Hr_11 := Lib.hid (Hr_8.out.trans (hb5.mono Hr_8.out.size))
      clear Hr_8
      have Hb_12 := Lib.hid (Hb_9.out.trans (hb5.mono Hb_9.out.size))
      clear Hb_9
      have hN2 := srow_slr hn2.out hl2
      have hP2 := srow_slr hp2.out hm2
      have HPC := Lib.hid (fun W (hW : Below w5.heap.size w5 W) (hV : Below w.heap.size w W) => mprint_any bs A2 A2' n2 c2 n2 d2 W ((hN2.below hW).more hW.size) ((hP2.below hW).more hW.size) HBSZ.out.1 HBSZ.out.2 (HG.out.below hV))
      rw [HPF.out] at HPC
      have hW5 : Hid (Below w5.heap.size w5 (w5.alloc (.cells #[.int .i64 bs.epoch, .int .i64 bs.k, .slice A2 n2 c2, .slice A2' n2 d2] 24))) := Lib.hid (by go_grown)
      clear hb5 hn2 hp2 hN2 hP2
      unfold recV at HPC ⊢
      have Hw_13 : Hid (Below w.heap.size w (w5.alloc (.cells #[.int .i64 bs.epoch, .int .i64 bs.k, .slice A2 n2 c2, .slice A2' n2 d2] 24))) := Lib.hid (Hw_10.out.alloc Hw_10.out.size _)
      clear Hw_10
      have Hr_14 : Hid (Below (w.alloc (.cells #[.int .i64 r.epoch, .int .i64 r.k, .slice A n c, .slice A' m d] 24)).heap.size (w.alloc (.cells #[.int .i64 r.epoch, .int .i64 r.k, .slice A n c, .slice A' m d] 24)) (w5.alloc (.cells #[.int .i64 bs.epoch, .int .i64 bs.k, .slice A2 n2 c2, .slice A2' n2 d2] 24))) := Lib.hid (Hr_11.out.alloc Hr_11.out.size _)
      clear Hr_11
      have Hb_15 : Hid (Below (w3.alloc (.cells #[.int .i64 b1.epoch, .int .i64 b1.k, .slice A1 n1 c1, .slice A1' n1 d1] 24)).heap.size (w3.alloc (.cells #[.int .i64 b1.epoch, .int .i64 b1.k, .slice A1 n1 c1, .slice A1' n1 d1] 24)) (w5.alloc (.cells #[.int .i64 bs.epoch, .int .i64 bs.k, .slice A2 n2 c2, .slice A2' n2 d2] 24))) := Lib.hid (Hb_12.out.alloc Hb_12.out.size _)
      clear Hb_12
      have Hc_16 : Hid (Below (w5.alloc (.cells #[.int .i64 bs.epoch, .int .i64 bs.k, .slice A2 n2 c2, .slice A2' n2 d2] 24)).heap.size (w5.alloc (.cells #[.int .i64 bs.epoch, .int .i64 bs.k, .slice A2 n2 c2, .slice A2' n2 d2] 24)) (w5.alloc (.cells #[.int .i64 bs.epoch, .int .i64 bs.k, .slice A2 n2 c2, .slice A2' n2 d2] 24))) := Lib.hid (Below.refl _ _)
      go_wp2_with fail
      refine (HPC.out _ hW5.out Hw_13.out).mono ?_
      rintro e' w6 ⟨rfl, hb6⟩
      have Hw_17 := Lib.hid (Hw_13.out.trans (hb6.mono Hw_13.out.size))
      clear Hw_13
      have Hr_18 := Lib.hid (Hr_14.out.trans (hb6.mono Hr_14.out.size))
      clear Hr_14
      have Hb_19 := Lib.hid (Hb_15.out.trans (hb6.mono Hb_15.out.size))
      clear Hb_15
      have Hc_20 := Lib.hid (Hc_16.out.trans (hb6.mono Hc_16.out.size))
      clear Hc_16
      clear hb6 HPC
      have q0 := ((Blk.new w 24 #[.int .i64 r.epoch, .int .i64 r.k, .slice A n c, .slice A' m d]).below Hr_18.out (by simp)).cells 0 _ rfl
      have q1 := ((Blk.new w 24 #[.int .i64 r.epoch, .int .i64 r.k, .slice A n c, .slice A' m d]).below Hr_18.out (by simp)).cells 1 _ rfl
      have q2 := ((Blk.new w 24 #[.int .i64 r.epoch, .int .i64 r.k, .slice A n c, .slice A' m d]).below Hr_18.out (by simp)).cells 2 _ rfl
      have q3 := ((Blk.new w 24 #[.int .i64 r.epoch, .int .i64 r.k, .slice A n c, .slice A' m d]).below Hr_18.out (by simp)).cells 3 _ rfl
      simp only [List.getElem_toArray, List.getElem_cons_zero, List.getElem_cons_succ] at q0 q1 q2 q3
      go_wp2_with fail
      refine (HHI.out _ Hw_17.out).mono ?_
      rintro e' w7 ⟨rfl, hb7⟩
      have Hw_21 := Lib.hid (Hw_17.out.trans (hb7.mono Hw_17.out.size))
      clear Hw_17
      have Hr_22 := Lib.hid (Hr_18.out.trans (hb7.mono Hr_18.out.size))
      clear Hr_18
      have Hb_23 := Lib.hid (Hb_19.out.trans (hb7.mono Hb_19.out.size))
      clear Hb_19
      have Hc_24 := Lib.hid (Hc_20.out.trans (hb7.mono Hc_20.out.size))
      clear Hc_20
      clear hb7 q0 q1 q2 q3
      go_wp2_with fail
      refine (HSH.out _ Hw_21.out).mono ?_
      rintro e' w8 ⟨A3, A3', n3, c3, d3, rfl, hn3, hp3, hl3, hm3, hb8⟩
      have Hw_25 := Lib.hid (Hw_21.out.trans (hb8.mono Hw_21.out.size))
      clear Hw_21
      have Hr_26 := Lib.hid (Hr_22.out.trans (hb8.mono Hr_22.out.size))
      clear Hr_22
      have Hb_27 := Lib.hid (Hb_23.out.trans (hb8.mono Hb_23.out.size))
      clear Hb_23
      have Hc_28 := Lib.hid (Hc_24.out.trans (hb8.mono Hc_24.out.size))
      clear Hc_24
      clear hb8 hn3 hp3
      unfold recV
      have Hw_29 : Hid (Below w.heap.size w (w8.alloc (.cells #[.int .i64 u.epoch, .int .i64 u.k, .slice A3 n3 c3, .slice A3' n3 d3] 24))) := Lib.hid (Hw_25.out.alloc Hw_25.out.size _)
      clear Hw_25
      have Hr_30 : Hid (Below (w.alloc (.cells #[.int .i64 r.epoch, .int .i64 r.k, .slice A n c, .slice A' m d] 24)).heap.size (w.alloc (.cells #[.int .i64 r.epoch, .int .i64 r.k, .slice A n c, .slice A' m d] 24)) (w8.alloc (.cells #[.int .i64 u.epoch, .int .i64 u.k, .slice A3 n3 c3, .slice A3' n3 d3] 24))) := Lib.hid (Hr_26.out.alloc Hr_26.out.size _)
      clear Hr_26
      have Hb_31 : Hid (Below (w3.alloc (.cells #[.int .i64 b1.epoch, .int .i64 b1.k, .slice A1 n1 c1, .slice A1' n1 d1] 24)).heap.size (w3.alloc (.cells #[.int .i64 b1.epoch, .int .i64 b1.k, .slice A1 n1 c1, .slice A1' n1 d1] 24)) (w8.alloc (.cells #[.int .i64 u.epoch, .int .i64 u.k, .slice A3 n3 c3, .slice A3' n3 d3] 24))) := Lib.hid (Hb_27.out.alloc Hb_27.out.size _)
      clear Hb_27
      have Hc_32 : Hid (Below (w5.alloc (.cells #[.int .i64 bs.epoch, .int .i64 bs.k, .slice A2 n2 c2, .slice A2' n2 d2] 24)).heap.size (w5.alloc (.cells #[.int .i64 bs.epoch, .int .i64 bs.k, .slice A2 n2 c2, .slice A2' n2 d2] 24)) (w8.alloc (.cells #[.int .i64 u.epoch, .int .i64 u.k, .slice A3 n3 c3, .slice A3' n3 d3] 24))) := Lib.hid (Hc_28.out.alloc Hc_28.out.size _)
      clear Hc_28
      have Hu_33 : Hid (Below (w8.alloc (.cells #[.int .i64 u.epoch, .int .i64 u.k, .slice A3 n3 c3, .slice A3' n3 d3] 24)).heap.size (w8.alloc (.cells #[.int .i64 u.epoch, .int .i64 u.k, .slice A3 n3 c3, .slice A3' n3 d3] 24)) (w8.alloc (.cells #[.int .i64 u.epoch, .int .i64 u.k, .slice A3 n3 c3, .slice A3' n3 d3] 24))) := Lib.hid (Below.refl _ _)
      go_wp2_with fail
      refine (HME.out _ Hw_29.out).mono ?_
      rintro e' w9 ⟨rfl, hb9⟩
      have Hw_34 := Lib.hid (Hw_29.out.trans (hb9.mono Hw_29.out.size))
      clear Hw_29
      have Hr_35 := Lib.hid (Hr_30.out.trans (hb9.mono Hr_30.out.size))
      clear Hr_30
      have Hb_36 := Lib.hid (Hb_31.out.trans (hb9.mono Hb_31.out.size))
      clear Hb_31
      have Hc_37 := Lib.hid (Hc_32.out.trans (hb9.mono Hc_32.out.size))
      clear Hc_32
      have Hu_38 := Lib.hid (Hu_33.out.trans (hb9.mono Hu_33.out.size))
      clear Hu_33
      clear hb9
      have q0 := ((Blk.new w 24 #[.int .i64 r.epoch, .int .i64 r.k, .slice A n c, .slice A' m d]).below Hr_35.out (by simp)).cells 0 _ rfl
      have q1 := ((Blk.new w 24 #[.int .i64 r.epoch, .int .i64 r.k, .slice A n c, .slice A' m d]).below Hr_35.out (by simp)).cells 1 _ rfl
      have q2 := ((Blk.new w 24 #[.int .i64 r.epoch, .int .i64 r.k, .slice A n c, .slice A' m d]).below Hr_35.out (by simp)).cells 2 _ rfl
      have q3 := ((Blk.new w 24 #[.int .i64 r.epoch, .int .i64 r.k, .slice A n c, .slice A' m d]).below Hr_35.out (by simp)).cells 3 _ rfl
      simp only [List.getElem_toArray, List.getElem_cons_zero, List.getElem_cons_succ] at q0 q1 q2 q3
      go_wp2_with fail
      refine (HCK.out _ Hw_34.out).mono ?_
      rintro e' w11 ⟨rfl, hb11⟩
      have Hw_39 := Lib.hid (Hw_34.out.trans (hb11.mono Hw_34.out.size))
      clear Hw_34
      have Hr_40 := Lib.hid (Hr_35.out.trans (hb11.mono Hr_35.out.size))
      clear Hr_35
      have Hb_41 := Lib.hid (Hb_36.out.trans (hb11.mono Hb_36.out.size))
      clear Hb_36
      have Hc_42 := Lib.hid (Hc_37.out.trans (hb11.mono Hc_37.out.size))
      clear Hc_37
      have Hu_43 := Lib.hid (Hu_38.out.trans (hb11.mono Hu_38.out.size))
      clear Hu_38
      clear hb11 q0 q1 q2 q3
      go_wp2_with (with_reducible refine end_at ?_)
      refine end_ret (v := .bool true) (by simp [results, Tryz.results3]) rfl ⟨rfl, Hw_39.out⟩
    · have HSZ := Lib.hid hz
      skip
      clear hz
      unfold recV at HBI HPR HCK HHI ⊢
      have Hw_0 : Hid (Below w.heap.size w (w.alloc (.cells #[.int .i64 r.epoch, .int .i64 r.k, .slice A n c, .slice A' m d] 24))) := Lib.hid (by go_grown)
      have Hr_0 : Hid (Below (w.alloc (.cells #[.int .i64 r.epoch, .int .i64 r.k, .slice A n c, .slice A' m d] 24)).heap.size (w.alloc (.cells #[.int .i64 r.epoch, .int .i64 r.k, .slice A n c, .slice A' m d] 24)) (w.alloc (.cells #[.int .i64 r.epoch, .int .i64 r.k, .slice A n c, .slice A' m d] 24))) := Lib.hid (Below.refl _ _)
      go_enter Tryz.func3, Tryz.ntmps3
      go_wp2_with fail
      refine (HBI.out _ Hw_0.out).mono ?_
      rintro e' w1 ⟨rfl, hb1⟩
      have Hw_1 := Lib.hid (Hw_0.out.trans (hb1.mono Hw_0.out.size))
      clear Hw_0
      have Hr_2 := Lib.hid (Hr_0.out.trans (hb1.mono Hr_0.out.size))
      clear Hr_0
      clear hb1
      have q0 := ((Blk.new w 24 #[.int .i64 r.epoch, .int .i64 r.k, .slice A n c, .slice A' m d]).below Hr_2.out (by simp)).cells 0 _ rfl
      have q1 := ((Blk.new w 24 #[.int .i64 r.epoch, .int .i64 r.k, .slice A n c, .slice A' m d]).below Hr_2.out (by simp)).cells 1 _ rfl
      have q2 := ((Blk.new w 24 #[.int .i64 r.epoch, .int .i64 r.k, .slice A n c, .slice A' m d]).below Hr_2.out (by simp)).cells 2 _ rfl
      have q3 := ((Blk.new w 24 #[.int .i64 r.epoch, .int .i64 r.k, .slice A n c, .slice A' m d]).below Hr_2.out (by simp)).cells 3 _ rfl
      simp only [List.getElem_toArray, List.getElem_cons_zero, List.getElem_cons_succ] at q0 q1 q2 q3
      go_wp2_with fail
      refine (HPR.out _ Hw_1.out).mono ?_
      rintro e' w2 ⟨rfl, hb2⟩
      have Hw_3 := Lib.hid (Hw_1.out.trans (hb2.mono Hw_1.out.size))
      clear Hw_1
      have Hr_4 := Lib.hid (Hr_2.out.trans (hb2.mono Hr_2.out.size))
      clear Hr_2
      clear hb2 q0 q1 q2 q3
      go_wp2_with fail
      refine (HPA.out _ Hw_3.out).mono ?_
      rintro e' w3 ⟨A1, A1', n1, c1, d1, rfl, hn1, hp1, hl1, hm1, hb3⟩
      have Hw_5 := Lib.hid (Hw_3.out.trans (hb3.mono Hw_3.out.size))
      clear Hw_3
      have Hr_6 := Lib.hid (Hr_4.out.trans (hb3.mono Hr_4.out.size))
      clear Hr_4
      have hN1 := srow_slr hn1.out hl1
      have hP1 := srow_slr hp1.out hm1
      clear hb3 hn1 hp1 hN1 hP1
      unfold recV
      have Hw_7 : Hid (Below w.heap.size w (w3.alloc (.cells #[.int .i64 b1.epoch, .int .i64 b1.k, .slice A1 n1 c1, .slice A1' n1 d1] 24))) := Lib.hid (Hw_5.out.alloc Hw_5.out.size _)
      clear Hw_5
      have Hr_8 : Hid (Below (w.alloc (.cells #[.int .i64 r.epoch, .int .i64 r.k, .slice A n c, .slice A' m d] 24)).heap.size (w.alloc (.cells #[.int .i64 r.epoch, .int .i64 r.k, .slice A n c, .slice A' m d] 24)) (w3.alloc (.cells #[.int .i64 b1.epoch, .int .i64 b1.k, .slice A1 n1 c1, .slice A1' n1 d1] 24))) := Lib.hid (Hr_6.out.alloc Hr_6.out.size _)
      clear Hr_6
      have Hb_9 : Hid (Below (w3.alloc (.cells #[.int .i64 b1.epoch, .int .i64 b1.k, .slice A1 n1 c1, .slice A1' n1 d1] 24)).heap.size (w3.alloc (.cells #[.int .i64 b1.epoch, .int .i64 b1.k, .slice A1 n1 c1, .slice A1' n1 d1] 24)) (w3.alloc (.cells #[.int .i64 b1.epoch, .int .i64 b1.k, .slice A1 n1 c1, .slice A1' n1 d1] 24))) := Lib.hid (Below.refl _ _)
      have q0 := ((Blk.new w 24 #[.int .i64 r.epoch, .int .i64 r.k, .slice A n c, .slice A' m d]).below Hr_8.out (by simp)).cells 0 _ rfl
      have q1 := ((Blk.new w 24 #[.int .i64 r.epoch, .int .i64 r.k, .slice A n c, .slice A' m d]).below Hr_8.out (by simp)).cells 1 _ rfl
      have q2 := ((Blk.new w 24 #[.int .i64 r.epoch, .int .i64 r.k, .slice A n c, .slice A' m d]).below Hr_8.out (by simp)).cells 2 _ rfl
      have q3 := ((Blk.new w 24 #[.int .i64 r.epoch, .int .i64 r.k, .slice A n c, .slice A' m d]).below Hr_8.out (by simp)).cells 3 _ rfl
      simp only [List.getElem_toArray, List.getElem_cons_zero, List.getElem_cons_succ] at q0 q1 q2 q3
      go_wp2_with fail
      clear q0 q1 q2 q3
      refine (HPS.out _ Hw_7.out).mono ?_
      rintro e' w5 ⟨A2, A2', n2, c2, d2, rfl, hn2, hp2, hl2, hm2, hb5⟩
      have Hw_10 := Lib.hid (Hw_7.out.trans (hb5.mono Hw_7.out.size))
      clear Hw_7
      have Hr_11 := Lib.hid (Hr_8.out.trans (hb5.mono Hr_8.out.size))
      clear Hr_8
      have Hb_12 := Lib.hid (Hb_9.out.trans (hb5.mono Hb_9.out.size))
      clear Hb_9
      have hN2 := srow_slr hn2.out hl2
      have hP2 := srow_slr hp2.out hm2
      have HPC := Lib.hid (fun W (hW : Below w5.heap.size w5 W) (hV : Below w.heap.size w W) => mprint_any bs A2 A2' n2 c2 n2 d2 W ((hN2.below hW).more hW.size) ((hP2.below hW).more hW.size) HBSZ.out.1 HBSZ.out.2 (HG.out.below hV))
      have hW5 : Hid (Below w5.heap.size w5 (w5.alloc (.cells #[.int .i64 bs.epoch, .int .i64 bs.k, .slice A2 n2 c2, .slice A2' n2 d2] 24))) := Lib.hid (by go_grown)
      have HSC := Lib.hid (fun W (hW : Below w5.heap.size w5 W) => rsame_any bs noRec A2 A2' n2 c2 n2 d2 none none 0 0 0 0 W ((hN2.below hW).more hW.size) ((hP2.below hW).more hW.size) (srow_slr (srow_nil W 0) rfl) (srow_slr (srow_nil W 0) rfl) (by have := HBSL.out.1; omega) (by omega) (by have := HBSL.out.2; omega) (by omega))
      rw [HSZ.out] at HSC
      clear hb5 hn2 hp2 hN2 hP2
      unfold recV at HPC HSC ⊢
      have Hw_13 : Hid (Below w.heap.size w (w5.alloc (.cells #[.int .i64 bs.epoch, .int .i64 bs.k, .slice A2 n2 c2, .slice A2' n2 d2] 24))) := Lib.hid (Hw_10.out.alloc Hw_10.out.size _)
      clear Hw_10
      have Hr_14 : Hid (Below (w.alloc (.cells #[.int .i64 r.epoch, .int .i64 r.k, .slice A n c, .slice A' m d] 24)).heap.size (w.alloc (.cells #[.int .i64 r.epoch, .int .i64 r.k, .slice A n c, .slice A' m d] 24)) (w5.alloc (.cells #[.int .i64 bs.epoch, .int .i64 bs.k, .slice A2 n2 c2, .slice A2' n2 d2] 24))) := Lib.hid (Hr_11.out.alloc Hr_11.out.size _)
      clear Hr_11
      have Hb_15 : Hid (Below (w3.alloc (.cells #[.int .i64 b1.epoch, .int .i64 b1.k, .slice A1 n1 c1, .slice A1' n1 d1] 24)).heap.size (w3.alloc (.cells #[.int .i64 b1.epoch, .int .i64 b1.k, .slice A1 n1 c1, .slice A1' n1 d1] 24)) (w5.alloc (.cells #[.int .i64 bs.epoch, .int .i64 bs.k, .slice A2 n2 c2, .slice A2' n2 d2] 24))) := Lib.hid (Hb_12.out.alloc Hb_12.out.size _)
      clear Hb_12
      have Hc_16 : Hid (Below (w5.alloc (.cells #[.int .i64 bs.epoch, .int .i64 bs.k, .slice A2 n2 c2, .slice A2' n2 d2] 24)).heap.size (w5.alloc (.cells #[.int .i64 bs.epoch, .int .i64 bs.k, .slice A2 n2 c2, .slice A2' n2 d2] 24)) (w5.alloc (.cells #[.int .i64 bs.epoch, .int .i64 bs.k, .slice A2 n2 c2, .slice A2' n2 d2] 24))) := Lib.hid (Below.refl _ _)
      go_wp2_with fail
      refine (HPC.out _ hW5.out Hw_13.out).mono ?_
      rintro e' w6 ⟨rfl, hb6⟩
      have Hw_17 := Lib.hid (Hw_13.out.trans (hb6.mono Hw_13.out.size))
      clear Hw_13
      have Hr_18 := Lib.hid (Hr_14.out.trans (hb6.mono Hr_14.out.size))
      clear Hr_14
      have Hb_19 := Lib.hid (Hb_15.out.trans (hb6.mono Hb_15.out.size))
      clear Hb_15
      have Hc_20 := Lib.hid (Hc_16.out.trans (hb6.mono Hc_16.out.size))
      clear Hc_16
      clear hb6 HPC
      have q0 := ((Blk.new w 24 #[.int .i64 r.epoch, .int .i64 r.k, .slice A n c, .slice A' m d]).below Hr_18.out (by simp)).cells 0 _ rfl
      have q1 := ((Blk.new w 24 #[.int .i64 r.epoch, .int .i64 r.k, .slice A n c, .slice A' m d]).below Hr_18.out (by simp)).cells 1 _ rfl
      have q2 := ((Blk.new w 24 #[.int .i64 r.epoch, .int .i64 r.k, .slice A n c, .slice A' m d]).below Hr_18.out (by simp)).cells 2 _ rfl
      have q3 := ((Blk.new w 24 #[.int .i64 r.epoch, .int .i64 r.k, .slice A n c, .slice A' m d]).below Hr_18.out (by simp)).cells 3 _ rfl
      simp only [List.getElem_toArray, List.getElem_cons_zero, List.getElem_cons_succ] at q0 q1 q2 q3
      go_wp2_with fail
      refine (HHI.out _ Hw_17.out).mono ?_
      rintro e' w7 ⟨rfl, hb7⟩
      have Hw_21 := Lib.hid (Hw_17.out.trans (hb7.mono Hw_17.out.size))
      clear Hw_17
      have Hr_22 := Lib.hid (Hr_18.out.trans (hb7.mono Hr_18.out.size))
      clear Hr_18
      have Hb_23 := Lib.hid (Hb_19.out.trans (hb7.mono Hb_19.out.size))
      clear Hb_19
      have Hc_24 := Lib.hid (Hc_20.out.trans (hb7.mono Hc_20.out.size))
      clear Hc_20
      clear hb7 q0 q1 q2 q3
      go_wp2_with fail
      refine (HSH.out _ Hw_21.out).mono ?_
      rintro e' w8 ⟨A3, A3', n3, c3, d3, rfl, hn3, hp3, hl3, hm3, hb8⟩
      have Hw_25 := Lib.hid (Hw_21.out.trans (hb8.mono Hw_21.out.size))
      clear Hw_21
      have Hr_26 := Lib.hid (Hr_22.out.trans (hb8.mono Hr_22.out.size))
      clear Hr_22
      have Hb_27 := Lib.hid (Hb_23.out.trans (hb8.mono Hb_23.out.size))
      clear Hb_23
      have Hc_28 := Lib.hid (Hc_24.out.trans (hb8.mono Hc_24.out.size))
      clear Hc_24
      clear hb8 hn3 hp3
      unfold recV
      have Hw_29 : Hid (Below w.heap.size w (w8.alloc (.cells #[.int .i64 u.epoch, .int .i64 u.k, .slice A3 n3 c3, .slice A3' n3 d3] 24))) := Lib.hid (Hw_25.out.alloc Hw_25.out.size _)
      clear Hw_25
      have Hr_30 : Hid (Below (w.alloc (.cells #[.int .i64 r.epoch, .int .i64 r.k, .slice A n c, .slice A' m d] 24)).heap.size (w.alloc (.cells #[.int .i64 r.epoch, .int .i64 r.k, .slice A n c, .slice A' m d] 24)) (w8.alloc (.cells #[.int .i64 u.epoch, .int .i64 u.k, .slice A3 n3 c3, .slice A3' n3 d3] 24))) := Lib.hid (Hr_26.out.alloc Hr_26.out.size _)
      clear Hr_26
      have Hb_31 : Hid (Below (w3.alloc (.cells #[.int .i64 b1.epoch, .int .i64 b1.k, .slice A1 n1 c1, .slice A1' n1 d1] 24)).heap.size (w3.alloc (.cells #[.int .i64 b1.epoch, .int .i64 b1.k, .slice A1 n1 c1, .slice A1' n1 d1] 24)) (w8.alloc (.cells #[.int .i64 u.epoch, .int .i64 u.k, .slice A3 n3 c3, .slice A3' n3 d3] 24))) := Lib.hid (Hb_27.out.alloc Hb_27.out.size _)
      clear Hb_27
      have Hc_32 : Hid (Below (w5.alloc (.cells #[.int .i64 bs.epoch, .int .i64 bs.k, .slice A2 n2 c2, .slice A2' n2 d2] 24)).heap.size (w5.alloc (.cells #[.int .i64 bs.epoch, .int .i64 bs.k, .slice A2 n2 c2, .slice A2' n2 d2] 24)) (w8.alloc (.cells #[.int .i64 u.epoch, .int .i64 u.k, .slice A3 n3 c3, .slice A3' n3 d3] 24))) := Lib.hid (Hc_28.out.alloc Hc_28.out.size _)
      clear Hc_28
      have Hu_33 : Hid (Below (w8.alloc (.cells #[.int .i64 u.epoch, .int .i64 u.k, .slice A3 n3 c3, .slice A3' n3 d3] 24)).heap.size (w8.alloc (.cells #[.int .i64 u.epoch, .int .i64 u.k, .slice A3 n3 c3, .slice A3' n3 d3] 24)) (w8.alloc (.cells #[.int .i64 u.epoch, .int .i64 u.k, .slice A3 n3 c3, .slice A3' n3 d3] 24))) := Lib.hid (Below.refl _ _)
      go_wp2_with fail
      refine (HME.out _ Hw_29.out).mono ?_
      rintro e' w9 ⟨rfl, hb9⟩
      have Hw_34 := Lib.hid (Hw_29.out.trans (hb9.mono Hw_29.out.size))
      clear Hw_29
      have Hr_35 := Lib.hid (Hr_30.out.trans (hb9.mono Hr_30.out.size))
      clear Hr_30
      have Hb_36 := Lib.hid (Hb_31.out.trans (hb9.mono Hb_31.out.size))
      clear Hb_31
      have Hc_37 := Lib.hid (Hc_32.out.trans (hb9.mono Hc_32.out.size))
      clear Hc_32
      have Hu_38 := Lib.hid (Hu_33.out.trans (hb9.mono Hu_33.out.size))
      clear Hu_33
      clear hb9
      have q0 := ((Blk.new w 24 #[.int .i64 r.epoch, .int .i64 r.k, .slice A n c, .slice A' m d]).below Hr_35.out (by simp)).cells 0 _ rfl
      have q1 := ((Blk.new w 24 #[.int .i64 r.epoch, .int .i64 r.k, .slice A n c, .slice A' m d]).below Hr_35.out (by simp)).cells 1 _ rfl
      have q2 := ((Blk.new w 24 #[.int .i64 r.epoch, .int .i64 r.k, .slice A n c, .slice A' m d]).below Hr_35.out (by simp)).cells 2 _ rfl
      have q3 := ((Blk.new w 24 #[.int .i64 r.epoch, .int .i64 r.k, .slice A n c, .slice A' m d]).below Hr_35.out (by simp)).cells 3 _ rfl
      simp only [List.getElem_toArray, List.getElem_cons_zero, List.getElem_cons_succ] at q0 q1 q2 q3
      go_wp2_with fail
      refine (HCK.out _ Hw_34.out).mono ?_
      rintro e' w11 ⟨rfl, hb11⟩
      have Hw_39 := Lib.hid (Hw_34.out.trans (hb11.mono Hw_34.out.size))
      clear Hw_34
      have Hr_40 := Lib.hid (Hr_35.out.trans (hb11.mono Hr_35.out.size))
      clear Hr_35
      have Hb_41 := Lib.hid (Hb_36.out.trans (hb11.mono Hb_36.out.size))
      clear Hb_36
      have Hc_42 := Lib.hid (Hc_37.out.trans (hb11.mono Hc_37.out.size))
      clear Hc_37
      have Hu_43 := Lib.hid (Hu_38.out.trans (hb11.mono Hu_38.out.size))
      clear Hu_38
      clear hb11 q0 q1 q2 q3
      have q0 := ((Blk.new w5 24 #[.int .i64 bs.epoch, .int .i64 bs.k, .slice A2 n2 c2, .slice A2' n2 d2]).below Hc_42.out (by simp)).cells 0 _ rfl
      have q1 := ((Blk.new w5 24 #[.int .i64 bs.epoch, .int .i64 bs.k, .slice A2 n2 c2, .slice A2' n2 d2]).below Hc_42.out (by simp)).cells 1 _ rfl
      have q2 := ((Blk.new w5 24 #[.int .i64 bs.epoch, .int .i64 bs.k, .slice A2 n2 c2, .slice A2' n2 d2]).below Hc_42.out (by simp)).cells 2 _ rfl
      have q3 := ((Blk.new w5 24 #[.int .i64 bs.epoch, .int .i64 bs.k, .slice A2 n2 c2, .slice A2' n2 d2]).below Hc_42.out (by simp)).cells 3 _ rfl
      simp only [List.getElem_toArray, List.getElem_cons_zero, List.getElem_cons_succ] at q0 q1 q2 q3
      have hW11 := Lib.hid (hW5.out.trans (Hc_42.out.mono hW5.out.size))
      go_wp2_with fail
      refine (HSC.out _ hW11.out).mono ?_
      rintro e' w12 ⟨rfl, hb12⟩
      have Hw_44 := Lib.hid (Hw_39.out.trans (hb12.mono Hw_39.out.size))
      clear Hw_39
      have Hr_45 := Lib.hid (Hr_40.out.trans (hb12.mono Hr_40.out.size))
      clear Hr_40
      have Hb_46 := Lib.hid (Hb_41.out.trans (hb12.mono Hb_41.out.size))
      clear Hb_41
      have Hc_47 := Lib.hid (Hc_42.out.trans (hb12.mono Hc_42.out.size))
      clear Hc_42
      have Hu_48 := Lib.hid (Hu_43.out.trans (hb12.mono Hu_43.out.size))
      clear Hu_43
      clear hb12
      go_wp2_with (with_reducible refine end_at ?_)
      refine end_ret (v := .bool true) (by simp [results, Tryz.results3]) rfl ⟨rfl, Hw_44.out⟩
set_option maxRecDepth 100000 in
theorem back_any (key nonce : ByteArray) (r : Rec) (s : ByteArray) (A A' : Option Addr) (n c m d : Nat) (w : World)
    (hN : SlR encS 1 w w.heap.size A n r.names) (hP : SlR encS 1 w w.heap.size A' m r.pledges) (hsn : ∀ s ∈ r.names, s.size ≤ 140737488351232) (hsp : ∀ s ∈ r.pledges, s.size ≤ 140737488351232) (hk : key.size ≤ 140737488351232) (hnn : nonce.size ≤ 140737488351232) (hss : s.size ≤ 140737488351232) (hG : Pows w) (hE : Errs w) (hT : Turns w) :
    Calls Tryz.prog 3 #[.string key, .string nonce, recV r A n c A' m d, .string s] w fun e w' => e = .returned (.bool true) ∧ Below w.heap.size w w' := by
  by_cases hmain : bigR r = false ∧ s.size ≤ 3000 ∧ key.size + nonce.size ≤ 200
  · exact back_main key nonce r s A A' n c m d w hmain.1 hmain.2.1 hmain.2.2 hN hP hsn hsp hG hE hT
  · have HBI := Lib.hid (fun W (hW : Below w.heap.size w W) => mbig_any r A A' n c m d W ((hN.below hW).more hW.size) ((hP.below hW).more hW.size) hsn hsp)
    have e3 : IntKind.i64.wrap ((key.size : Int) + (nonce.size : Int)) = (key.size : Int) + (nonce.size : Int) := by simp only [IntKind.wrap, IntKind.bits, IntKind.signed]; simp; omega
    clear hN hP hsn hsp hG hE hT
    obtain ⟨V, hV⟩ : ∃ V, bigR r = V := ⟨_, rfl⟩
    rw [hV] at HBI hmain
    clear hV
    unfold recV at HBI ⊢
    have hway : V = true ∨ (V = false ∧ 3000 < s.size) ∨ (V = false ∧ ¬ 3000 < s.size ∧ 200 < key.size + nonce.size) := by
      cases V
      · by_cases h1 : 3000 < s.size
        · exact .inr (.inl ⟨rfl, h1⟩)
        · exact .inr (.inr ⟨rfl, h1, by
            by_cases h2 : 200 < key.size + nonce.size
            · exact h2
            · exact absurd ⟨rfl, by omega, by omega⟩ hmain⟩)
      · exact .inl rfl
    clear hmain
    have HB0 : Hid (Below w.heap.size w (w.alloc (.cells #[.int .i64 r.epoch, .int .i64 r.k, .slice A n c, .slice A' m d] 24))) := Lib.hid (by go_grown)
    have HDN : ∀ w1, Below (w.alloc (.cells #[.int .i64 r.epoch, .int .i64 r.k, .slice A n c, .slice A' m d] 24)).heap.size (w.alloc (.cells #[.int .i64 r.epoch, .int .i64 r.k, .slice A n c, .slice A' m d] 24)) w1 → Below w.heap.size w w1 := fun w1 hb => HB0.out.trans (hb.mono HB0.out.size)
    have HDN := Lib.hid HDN
    rcases hway with rfl | ⟨rfl, h1⟩ | ⟨rfl, h1, h2⟩
    · go_enter Tryz.func3, Tryz.ntmps3
      go_wp2_with fail
      refine (HBI.out _ HB0.out).mono ?_
      rintro e' w1 ⟨rfl, hb1⟩
      go_wp2_with (with_reducible refine end_at ?_)
      refine end_ret (v := .bool true) (by simp [results, Tryz.results3]) rfl ⟨rfl, HDN.out _ hb1⟩
    · have g1 : (3000 : Int) < (s.size : Int) := by omega
      go_enter Tryz.func3, Tryz.ntmps3
      go_wp2_with fail
      refine (HBI.out _ HB0.out).mono ?_
      rintro e' w1 ⟨rfl, hb1⟩
      go_wp2_with (with_reducible refine end_at ?_)
      refine end_ret (v := .bool true) (by simp [results, Tryz.results3]) rfl ⟨rfl, HDN.out _ hb1⟩
    · have g1 : ¬ (3000 : Int) < (s.size : Int) := by omega
      have g2 : (200 : Int) < (key.size : Int) + (nonce.size : Int) := by omega
      go_enter Tryz.func3, Tryz.ntmps3
      go_wp2_with fail
      refine (HBI.out _ HB0.out).mono ?_
      rintro e' w1 ⟨rfl, hb1⟩
      go_wp2_with (with_reducible refine end_at ?_)
      refine end_ret (v := .bool true) (by simp [results, Tryz.results3]) rfl ⟨rfl, HDN.out _ hb1⟩
end Go.Proofs.YtbgohcedakpnbaaGreatDoor
