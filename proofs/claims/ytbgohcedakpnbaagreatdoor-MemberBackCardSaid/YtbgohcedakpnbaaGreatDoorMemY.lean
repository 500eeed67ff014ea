/- member: Hide; Show of what is hidden. -/
import Derived.Test.YtbgohcedakpnbaaGreatDoorMemU
import Derived.Test.YtbgohcedakpnbaaGreatDoorSealC
set_option linter.unusedVariables false
set_option linter.unusedSimpArgs false
namespace Go.Proofs.YtbgohcedakpnbaaGreatDoor
open Go.RowKit Go.Shelf
def recordT : ByteArray := ⟨#[114, 101, 99, 111, 114, 100]⟩
def mhideF (key nonce : ByteArray) (r : Rec) : ByteArray × Int :=
  if checkB r = true then (if (sealF key nonce recordT (printB r)).2 = 0 then (nonce ++ (sealF key nonce recordT (printB r)).1, 0) else (⟨#[]⟩, (sealF key nonce recordT (printB r)).2)) else (⟨#[]⟩, 180)
theorem print_small {r : Rec} (h : checkB r = true) : (printB r).size ≤ 100000 := by
  have h1 := catT_le _ (fun s hs => (lines_ok h s hs).2)
  obtain ⟨⟨_, _, _, h4, h5, _, _⟩, _⟩ := (checkB_iff r).1 h
  have h2 : (linesL r).length = (List.zipWith lineAt r.names r.pledges).length + 1 := rfl
  rw [List.length_zipWith] at h2
  show (catT (linesL r)).toArray.size ≤ _
  rw [List.size_toArray]
  omega
set_option maxRecDepth 100000 in
set_option maxHeartbeats 2000000 in
theorem mhide_any (key nonce : ByteArray) (r : Rec) (A A' : Option Addr) (n c m d : Nat) (w : World) (hN : SlR encS 1 w w.heap.size A n r.names) (hP : SlR encS 1 w w.heap.size A' m r.pledges) (hsn : ∀ s ∈ r.names, s.size ≤ 140737488351232) (hsp : ∀ s ∈ r.pledges, s.size ≤ 140737488351232) (hG : Pows w) (hT : Turns w) :
    Calls Tryz.prog 8 #[.string key, .string nonce, recV r A n c A' m d] w fun e w' => e = .returned (.tuple #[.string (mhideF key nonce r).1, .int .i64 (mhideF key nonce r).2]) ∧ Below w.heap.size w w' := by
  have HPR := Lib.hid (fun W (hW : Below w.heap.size w W) => mprint_any r A A' n c m d W ((hN.below hW).more hW.size) ((hP.below hW).more hW.size) hsn hsp (hG.below hW))
  have hT2 := Lib.hid hT
  clear hN hP hsn hsp hG hT
  cases hck : checkB r with
  | false =>
    rw [show printF r = (⟨#[]⟩, 180) by rw [printF, if_neg (by rw [hck]; decide)]] at HPR
    rw [show mhideF key nonce r = (⟨#[]⟩, 180) by rw [mhideF, if_neg (by rw [hck]; decide)]]
    unfold recV at HPR ⊢
    obtain ⟨ep, kk, nm, pl⟩ := r
    dsimp only at *
    clear hck
    go_enter Tryz.func8, Tryz.ntmps8
    go_wp2_with fail
    refine (HPR.out _ (by go_grown)).mono ?_
    rintro e' w1 ⟨rfl, hb1⟩
    have HB1 : Hid (Below w.heap.size w w1) := Lib.hid (Below.trans (by go_grown) (hb1.mono (by simp)))
    clear hb1
    go_wp2_with (with_reducible refine end_at ?_)
    refine end_ret (v := .tuple #[.string ⟨#[]⟩, .int .i64 180]) (by simp [results, Tryz.results8]) rfl ⟨rfl, HB1.out⟩
  | true =>
    have hps := print_small hck
    rw [show printF r = (printB r, 0) by rw [printF, if_pos hck]] at HPR
    have HSE := Lib.hid (fun W (hW : Below w.heap.size w W) => seal_any key nonce recordT (printB r) W (hT2.out.below hW hT2.out.pos) (show 6 ≤ 140737488351232 by omega) (by omega))
    have hF : mhideF key nonce r = if (sealF key nonce recordT (printB r)).2 = 0 then (nonce ++ (sealF key nonce recordT (printB r)).1, 0) else (⟨#[]⟩, (sealF key nonce recordT (printB r)).2) := by rw [mhideF, if_pos hck]
    rw [hF]
    clear hF
    generalize printB r = T at *
    obtain ⟨⟨x, q⟩, hV⟩ : ∃ V, sealF key nonce recordT T = V := ⟨_, rfl⟩
    rw [hV] at HSE ⊢
    have HQ : Hid (q = 0 → nonce.size + x.size ≤ 1000000) := Lib.hid (fun h => by
      subst h
      have h1 := seal_size hV
      have h2 := (seal_ok hV).2.1
      omega)
    clear hV hps
    unfold recordT at HSE
    unfold recV at HPR ⊢
    obtain ⟨ep, kk, nm, pl⟩ := r
    dsimp only at *
    clear hck
    go_enter Tryz.func8, Tryz.ntmps8
    go_wp2_with fail
    refine (HPR.out _ (by go_grown)).mono ?_
    rintro e' w1 ⟨rfl, hb1⟩
    have HB1 : Hid (Below w.heap.size w w1) := Lib.hid (Below.trans (by go_grown) (hb1.mono (by simp)))
    clear hb1
    go_wp2_with fail
    refine (HSE.out _ HB1.out).mono ?_
    rintro e' w2 ⟨rfl, hb2⟩
    have HB2 := Lib.hid (HB1.out.trans (hb2.mono HB1.out.size))
    clear hb2
    by_cases hq : q = 0
    · have hxs := HQ.out hq
      subst hq
      go_wp2_with (with_reducible refine end_at ?_)
      refine end_ret (v := .tuple #[.string (nonce ++ x), .int .i64 0]) (by simp [results, Tryz.results8]) rfl ⟨rfl, HB2.out⟩
    · go_wp2_with (with_reducible refine end_at ?_)
      refine end_ret (v := .tuple #[.string ⟨#[]⟩, .int .i64 q]) (by simp [results, Tryz.results8]) rfl ⟨rfl, HB2.out⟩
/-- what Show is asked here -/
def ShowOf (key hidden : ByteArray) (b : Rec) (f : Int) : Prop := (f = 60 ∧ b = noRec ∧ hidden = ⟨#[]⟩) ∨ (f = 0 ∧ checkB b = true ∧ ∃ nonce x : ByteArray, nonce.size = 12 ∧ x.size ≤ 140737488351232 ∧ hidden = nonce ++ x ∧ openF key nonce recordT x = (printB b, 0))
set_option maxRecDepth 100000 in
set_option maxHeartbeats 4000000 in
theorem mshow_any (key hidden : ByteArray) (b : Rec) (f : Int) (w : World) (h : ShowOf key hidden b f) (hG : Pows w) (hE : Errs w) (hT : Turns w) :
    Calls Tryz.prog 9 #[.string key, .string hidden] w fun e' w' => ∃ (A A' : Option Addr) (n c d : Nat), e' = .returned (.tuple #[recV b A n c A' n d, .int .i64 f]) ∧ Hid (SRow w' w.heap.size (.slice A n c) b.names) ∧ Hid (SRow w' w.heap.size (.slice A' n d) b.pledges) ∧ b.names.length = n ∧ b.pledges.length = n ∧ Below w.heap.size w w' := by
  rcases h with ⟨rfl, rfl, rfl⟩ | ⟨rfl, hck, nonce, x, hn, hx, hh, ho⟩
  · clear hG hE hT
    have hx0 : Blk (w.alloc (.cells #[.int .i64 0, .int .i64 0, .slice none 0 0, .slice none 0 0] 24)) w.heap.size 24 #[.int .i64 0, .int .i64 0, .slice none 0 0, .slice none 0 0] := Blk.new w _ _
    have hB : Below w.heap.size w (w.alloc (.cells #[.int .i64 0, .int .i64 0, .slice none 0 0, .slice none 0 0] 24)) := by go_grown
    have HZ := Lib.hid (And.intro hx0 hB)
    clear hx0 hB
    go_enter Tryz.func9, Tryz.ntmps9
    go_wp2_with (with_reducible refine end_at ?_)
    obtain ⟨hz, hB⟩ := HZ.out
    have hld := rec_load hz
    refine end_ret (v := .tuple #[.agg #[.int .i64 0, .int .i64 0, .slice none 0 0, .slice none 0 0], .int .i64 60]) ?_ rfl ?_
    · simp [results, Tryz.results9, asAddr, hld]
    · exact ⟨none, none, 0, 0, 0, rfl, Lib.hid (srow_nil _ _), Lib.hid (srow_nil _ _), rfl, rfl, hB⟩
  · have hps := print_small hck
    have hsz : hidden.size = 12 + x.size := by rw [hh, ByteArray.size_append, hn]
    have e1 : hidden.extract 0 12 = nonce := by
      have h := front_append nonce x
      rw [hn] at h
      rw [hh]
      exact h
    have e2 : hidden.extract 12 hidden.size = x := by
      have h := back_append nonce x
      rw [hn] at h
      rw [hh]
      exact h
    have HOP := Lib.hid (fun W (hW : Below w.heap.size w W) => open_any key nonce recordT x W (hT.below hW hT.pos) (show 6 ≤ 140737488351232 by omega) hx)
    rw [ho] at HOP
    have HPA := Lib.hid (fun W (hW : Below w.heap.size w W) => mparse_any b 0 (printB b) W (.inl ⟨rfl, hck, rfl⟩) hps (hG.below hW) (hE.below hW))
    unfold recordT at HOP
    generalize printB b = T at *
    have k1 : (12 : Int) ≤ (hidden.size : Int) := by omega
    have k2 : decide ((hidden.size : Int) < 12) = false := by simp; omega
    have k3 : decide (hidden.size < 12) = false := by simp; omega
    clear hh ho hps hG hE hT hn hx hsz hck
    go_enter Tryz.func9, Tryz.ntmps9
    go_wp2_with fail
    refine wp_region_held_drew (S := fun W => Below (w.alloc (.cells #[.int .i64 0, .int .i64 0, .slice none 0 0, .slice none 0 0] 24)).heap.size (w.alloc (.cells #[.int .i64 0, .int .i64 0, .slice none 0 0, .slice none 0 0] 24)) W) (by kernel_rfl) (Still.below (Still.drew _)) (fun hHeld => ?_)
    refine wpAnyH_take (i := 0) (v := ?v1) rfl (by kernel_rfl) (by kernel_rfl) (by kernel_rfl) (fun _ _ _ h => h) (Or.inl ⟨by rfl, ?hy1⟩) hHeld ?rest1
    case hy1 => (intro w hSw; (try dsimp only at hSw); go_simp; try with_reducible rfl)
    try simp only [Act.put, List.getElem_toArray, List.getElem_cons_succ, List.getElem_cons_zero, List.setIfInBounds_toArray, List.set_cons_zero, List.set_cons_succ]
    refine wpAnyH_take (i := 1) (v := ?v2) rfl (by kernel_rfl) (by kernel_rfl) (by kernel_rfl) (fun _ _ _ h => h) (Or.inl ⟨by rfl, ?hy2⟩) hHeld ?rest2
    case hy2 => (intro w hSw; (try dsimp only at hSw); go_simp; try with_reducible rfl)
    try simp only [Act.put, List.getElem_toArray, List.getElem_cons_succ, List.getElem_cons_zero, List.setIfInBounds_toArray, List.set_cons_zero, List.set_cons_succ]
    refine wpAnyH_take (i := 2) (v := ?v3) rfl (by kernel_rfl) (by kernel_rfl) (by kernel_rfl) (fun _ _ _ h => h) (Or.inl ⟨by rfl, ?hy3⟩) hHeld ?rest3
    case hy3 => (intro w hSw; (try dsimp only at hSw); go_simp; try with_reducible rfl)
    try simp only [Act.put, List.getElem_toArray, List.getElem_cons_succ, List.getElem_cons_zero, List.setIfInBounds_toArray, List.set_cons_zero, List.set_cons_succ]
    refine wpAnyH_take (i := 3) (v := ?v4) rfl (by kernel_rfl) (by kernel_rfl) (by kernel_rfl) (fun _ _ _ h => h) (Or.inl ⟨by rfl, ?hy4⟩) hHeld ?rest4
    case hy4 => (intro w hSw; (try dsimp only at hSw); go_simp; try with_reducible rfl)
    try simp only [Act.put, List.getElem_toArray, List.getElem_cons_succ, List.getElem_cons_zero, List.setIfInBounds_toArray, List.set_cons_zero, List.set_cons_succ]
    refine wpAnyH_take (i := 4) (v := ?v5) rfl (by kernel_rfl) (by kernel_rfl) (by kernel_rfl) (fun _ _ _ h => h) (Or.inl ⟨by rfl, ?hy5⟩) hHeld ?rest5
    case hy5 => (intro w hSw; (try dsimp only at hSw); go_simp; try with_reducible rfl)
    try simp only [Act.put, List.getElem_toArray, List.getElem_cons_succ, List.getElem_cons_zero, List.setIfInBounds_toArray, List.set_cons_zero, List.set_cons_succ]
    refine wpAnyH_ready (rs := [5]) (by kernel_rfl) (by simp) ?_
    refine AllReadyH.cons rfl (fun K hK => ?_) AllReadyH.nil
    have hPrev := Lib.hid hHeld
    clear hHeld
    go_simp
    refine (HOP.out _ (Below.trans (by go_grown) (hPrev.out.mono (by simp)))).mono ?_
    rintro e' w5 ⟨rfl, hb5⟩
    go_simp
    refine hK.out _ _ (hPrev.out.trans (hb5.mono hPrev.out.size)) (fun hHeld => ?_)
    clear hK K hPrev
    try simp only [Act.put, List.getElem_toArray, List.getElem_cons_succ, List.getElem_cons_zero, List.setIfInBounds_toArray, List.set_cons_zero, List.set_cons_succ]
    refine wpAnyH_take (i := 6) (v := ?v7) rfl (by kernel_rfl) (by kernel_rfl) (by kernel_rfl) (fun _ _ _ h => h) (Or.inl ⟨by rfl, ?hy7⟩) hHeld ?rest7
    case hy7 => (intro w hSw; (try dsimp only at hSw); go_simp; try with_reducible rfl)
    try simp only [Act.put, List.getElem_toArray, List.getElem_cons_succ, List.getElem_cons_zero, List.setIfInBounds_toArray, List.set_cons_zero, List.set_cons_succ]
    refine wpAnyH_take (i := 7) (v := ?v8) rfl (by kernel_rfl) (by kernel_rfl) (by kernel_rfl) (fun _ _ _ h => h) (Or.inl ⟨by rfl, ?hy8⟩) hHeld ?rest8
    case hy8 => (intro w hSw; (try dsimp only at hSw); go_simp; try with_reducible rfl)
    try simp only [Act.put, List.getElem_toArray, List.getElem_cons_succ, List.getElem_cons_zero, List.setIfInBounds_toArray, List.set_cons_zero, List.set_cons_succ]
    refine wpAnyH_take (i := 8) (v := ?v9) rfl (by kernel_rfl) (by kernel_rfl) (by kernel_rfl) (fun _ _ _ h => h) (Or.inl ⟨by rfl, ?hy9⟩) hHeld ?rest9
    case hy9 => (intro w hSw; (try dsimp only at hSw); go_simp; try with_reducible rfl)
    try simp only [Act.put, List.getElem_toArray, List.getElem_cons_succ, List.getElem_cons_zero, List.setIfInBounds_toArray, List.set_cons_zero, List.set_cons_succ]
    refine wpAnyH_take (i := 9) (v := ?v10) rfl (by kernel_rfl) (by kernel_rfl) (by kernel_rfl) (fun _ _ _ h => h) (Or.inl ⟨by rfl, ?hy10⟩) hHeld ?rest10
    case hy10 => (intro w hSw; (try dsimp only at hSw); go_simp; try with_reducible rfl)
    try simp only [Act.put, List.getElem_toArray, List.getElem_cons_succ, List.getElem_cons_zero, List.setIfInBounds_toArray, List.set_cons_zero, List.set_cons_succ]
    refine wpAnyH_take (i := 10) (v := ?v11) rfl (by kernel_rfl) (by kernel_rfl) (by kernel_rfl) (fun _ _ _ h => h) (Or.inl ⟨by rfl, ?hy11⟩) hHeld ?rest11
    case hy11 => (intro w hSw; (try dsimp only at hSw); go_simp; try with_reducible rfl)
    try simp only [Act.put, List.getElem_toArray, List.getElem_cons_succ, List.getElem_cons_zero, List.setIfInBounds_toArray, List.set_cons_zero, List.set_cons_succ]
    refine wpAnyH_done (by kernel_rfl) ?_ _
    have HB5 : Hid (Below w.heap.size w w5) := Lib.hid (Below.trans (by go_grown) (hHeld.mono (by simp)))
    have hx5 : Blk w5 w.heap.size 24 #[.int .i64 0, .int .i64 0, .slice none 0 0, .slice none 0 0] := (Blk.new w _ _).below hHeld (by simp)
    have hz5 : w.heap.size + 1 ≤ w5.heap.size := by have := hHeld.size; simpa using this
    have HX5 := Lib.hid hx5
    clear hHeld hx5
    go_wp2_with fail
    refine (HPA.out _ HB5.out).mono ?_
    rintro e' w6 ⟨A, A', n, c, d, rfl, hn, hp, hnl, hpl, hb6⟩
    have hx6 := HX5.out.below hb6 HX5.out.lt
    have hn6 := orow_base hn.out (show w.heap.size + 1 ≤ w5.heap.size from hz5)
    have hp6 := orow_base hp.out (show w.heap.size + 1 ≤ w5.heap.size from hz5)
    have hB6 := HB5.out.trans (hb6.mono HB5.out.size)
    obtain ⟨ep, kk, nm, pl⟩ := b
    unfold recV
    dsimp only at hn6 hp6 hnl hpl ⊢
    have HNL := Lib.hid (And.intro hnl hpl)
    clear hnl hpl
    have hs7 := (((hx6.set_ 0 (.int .i64 ep)).set_ 1 (.int .i64 kk)).set_ 2 (.slice A n c)).set_ 3 (.slice A' n d)
    simp only [List.setIfInBounds_toArray, List.set_cons_zero, List.set_cons_succ] at hs7
    have hn7 := orow_far (orow_far (orow_far (orow_far hn6 hx6 (by decide) 0 (.int .i64 ep)) (hx6.set_ 0 _) (by decide) 1 (.int .i64 kk)) ((hx6.set_ 0 _).set_ 1 _) (by decide) 2 (.slice A n c)) (((hx6.set_ 0 _).set_ 1 _).set_ 2 _) (by decide) 3 (.slice A' n d)
    have hp7 := orow_far (orow_far (orow_far (orow_far hp6 hx6 (by decide) 0 (.int .i64 ep)) (hx6.set_ 0 _) (by decide) 1 (.int .i64 kk)) ((hx6.set_ 0 _).set_ 1 _) (by decide) 2 (.slice A n c)) (((hx6.set_ 0 _).set_ 1 _).set_ 2 _) (by decide) 3 (.slice A' n d)
    have hB7 : Below w.heap.size w ((((w6.setCell ⟨w.heap.size, 0, none⟩ (.int .i64 ep)).setCell ⟨w.heap.size, 1, none⟩ (.int .i64 kk)).setCell ⟨w.heap.size, 2, none⟩ (.slice A n c)).setCell ⟨w.heap.size, 3, none⟩ (.slice A' n d)) :=
      (((hB6.setCell (Nat.le_refl _) _).setCell (Nat.le_refl _) _).setCell (Nat.le_refl _) _).setCell (Nat.le_refl _) _
    have f0 := hx6.frozen
    have d0 := hx6.cells 0 _ rfl
    have d1 := hx6.cells 1 _ rfl
    have d2 := hx6.cells 2 _ rfl
    have d3 := hx6.cells 3 _ rfl
    simp only [List.getElem_toArray, List.getElem_cons_zero, List.getElem_cons_succ] at d0 d1 d2 d3
    have hl6 := hx6.lt
    have HX7 := Lib.hid (And.intro hs7 (And.intro hn7 (And.intro hp7 hB7)))
    clear hn hp hb6 hx6 hn6 hp6 hB6 hs7 hn7 hp7 hB7
    go_wp2_with (with_reducible refine end_at ?_)
    obtain ⟨hs7, hn7, hp7, hB7⟩ := HX7.out
    have hld := rec_load hs7
    generalize (((w6.setCell ⟨w.heap.size, 0, none⟩ (.int .i64 ep)).setCell ⟨w.heap.size, 1, none⟩ (.int .i64 kk)).setCell ⟨w.heap.size, 2, none⟩ (.slice A n c)).setCell ⟨w.heap.size, 3, none⟩ (.slice A' n d) = W7 at *
    refine end_ret (v := .tuple #[.agg #[.int .i64 ep, .int .i64 kk, .slice A n c, .slice A' n d], .int .i64 0]) ?_ rfl ?_
    · simp [results, Tryz.results9, asAddr, hld]
    · exact ⟨A, A', n, c, d, rfl, Lib.hid (orow_base hn7 (by omega)), Lib.hid (orow_base hp7 (by omega)), HNL.out.1, HNL.out.2, hB7⟩
end Go.Proofs.YtbgohcedakpnbaaGreatDoor
