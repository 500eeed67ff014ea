/- nonce: a number's digits, and the number that digits tell: the program's (read), the document's (Digits, Number). -/
import Derived.Test.YtpkomloblhbkiaaGreatDoorTagH
import Derived.Test.YtpkomloblhbkiaaGreatDoorKeep
import Derived.Test.YtpkomloblhbkiaaGreatDoorWordA
import Derived.Lib.ItoaMem
import Derived.Test.YtpkomloblhbkiaaGreatDoorBytes
import Derived.Laws.IdiomStrings
import Derived.Test.YtpkomloblhbkiaaGreatDoorItoa
set_option linter.unusedVariables false
/- tag: Tag. -/
namespace Go.Proofs.YtpkomloblhbkiaaGreatDoor
open Go.RowKit Go.Shelf
attribute [local go_sem] Oper.semAt_some
/-- the row behind some parts -/
def accR (E : List Nat) (pre : List P16) : List Nat := pre.foldl (fun a x => stepR a E (bytesN x.x)) zeroR
theorem accR_good (E : List Nat) (pre : List P16) : Digits (accR E pre) := by
  rcases List.eq_nil_or_concat pre with rfl | ⟨l, x, rfl⟩
  · exact zeroR_good
  · rw [accR, List.concat_eq_append, List.foldl_append]; exact stepR_good _ _ _
theorem accR_snoc (E : List Nat) (pre : List P16) (x : P16) : accR E (pre ++ [x]) = stepR (accR E pre) E (bytesN x.x) := by simp [accR]
def clampB (s : ByteArray) : ByteArray := ⟨(clampL s.data.toList).toArray⟩
theorem clampB_size (s : ByteArray) (h : s.size = 16) : (clampB s).size = 16 := by
  show (clampL s.data.toList).toArray.size = 16
  rw [List.size_toArray, clampL, clamp2_len, clamp1_len]
  simpa using h
/-- the digits that a key's first 16 bytes make -/
def keyR (key : ByteArray) : List Nat := bytesN (clampB (key.extract 0 16)) ++ [0]
theorem keyR_len (key : ByteArray) (h : key.size = 32) : (keyR key).length = 17 := by
  rw [keyR, List.length_append, bytesN_len, clampB_size _ (by simp; omega)]; rfl
theorem keyR_good (key : ByteArray) (h : key.size = 32) : Digits (keyR key) := by
  refine ⟨keyR_len key h, ?_, ?_⟩
  · intro x hx
    rcases List.mem_append.1 hx with h | h
    · exact bytesN_lt _ x h
    · rw [List.mem_singleton.1 h]; omega
  · rw [keyR, valD_snoc, Nat.zero_mul, Nat.add_zero]
    have h1 := valD_lt (bytesN (clampB (key.extract 0 16))) (bytesN_lt _)
    rw [bytesN_len, clampB_size _ (by simp; omega)] at h1
    have h3 : (256 : Nat) ^ 16 = 340282366920938463463374607431768211456 := by decide
    unfold primeP
    omega
/-- what is over behind i bytes -/
def overS (a e : List Nat) : Nat → Nat
  | 0 => 0
  | i + 1 => (overS a e i + (a.getD i 0 + e.getD i 0)) / 256
def tagL (a e : List Nat) (k : Nat) : List UInt8 := (List.range k).map fun i => UInt8.ofNat ((overS a e i + (a.getD i 0 + e.getD i 0)) % 256)
def endR (key : ByteArray) : List Nat := (bytesN key).drop 16
def tagB (key s : ByteArray) : ByteArray := ⟨(tagL (accR (keyR key) (partsP s)) (endR key) 16).toArray⟩
/-- a row of one's own, its block -/
theorem nrow_blk {w : World} {base n c : Nat} {A : Option Addr} {L : List Nat} (h : NRow w base (.slice A n c) L) (hn : L.length = n) (hpos : 0 < n) : ∃ g cur, A = some ⟨g, 0, none⟩ ∧ base ≤ g ∧ Blk w g 3 cur ∧ ∀ (i x : Nat), L[i]? = some x → cur[i]? = some (vN x) := by
  subst hn
  rcases h.2 with ⟨_, h0⟩ | ⟨g, cap, cur, hv, hb, hg, h1, h2, h3, h4⟩
  · omega
  · injection hv with hA
    refine ⟨g, cur, hA, hb, hg, fun i x hx => ?_⟩
    have hi : i < L.length := (List.getElem?_eq_some_iff.1 hx).1
    have := congrArg (fun l : List Value => l[i]?) h4
    simp only [List.getElem?_take, List.getElem?_map, hx, Option.map_some] at this
    rw [if_pos (by omega)] at this
    simpa using this
theorem cur_slr {w : World} {g B n : Nat} {cur : Array Value} {L : List Nat} (h : Blk w g 3 cur) (hc : ∀ (i x : Nat), L[i]? = some x → cur[i]? = some (vN x)) (hB : g < B) (hn : L.length = n) : SlR encI 1 w B (some ⟨g, 0, none⟩) n (ints L) := by
  subst hn
  refine SlR.ofC (by simp [ints]) hB ?_
  intro k x hx j v hv
  have hj : j = 0 := by
    have := (List.getElem?_eq_some_iff.1 hv).1
    simp [encI] at this; omega
  subst hj
  simp [encI] at hv
  subst hv
  unfold ints at hx
  rw [List.getElem?_map] at hx
  obtain ⟨y, hy, rfl⟩ := Option.map_eq_some_iff.1 hx
  have := (h.cell k).trans (hc k y hy)
  simpa [vN] using this
theorem clamp_b (s : ByteArray) (w : World) (hs : s.size = 16) :
    Calls Tryz.prog 126 #[.string s] w fun e w' => e = .returned (.tuple #[.string (clampB s), .bool true]) ∧ Below w.heap.size w w' := clamp_any s w hs
theorem tagL_all {key q cc : ByteArray} (hk : key.size = 32) (hq : key.extract 0 16 = q) (hc : clampB q = cc) (s : ByteArray) : tagB key s = ⟨(tagL (accR (bytesN cc ++ [0]) (partsP s)) (endR key) 16).toArray⟩ := by
  rw [tagB, keyR, hq, hc]
theorem make16 (w : World) : (Instr.makeSlice 113 (.int .i64 16) (.int .i64 16)).run Tryz.prog w = .ok (.slice (some ⟨w.heap.size, 0, none⟩) 16 16) (w.alloc (.cells (List.replicate 16 (Value.int .u8 0)).toArray 5)) :=
  run_mkrow (P := Tryz.prog) 113 5 (.int .u8 0) 1 Tryz.underlying113 byte_info rfl 16 (by omega) (by omega) w
theorem tagL_len (a e : List Nat) (k : Nat) : (tagL a e k).length = k := by simp [tagL]
theorem tagL_step (a e : List Nat) (i : Nat) (h : i < 16) : (tagL a e i ++ List.replicate (16 - i) 0).set i (UInt8.ofNat ((overS a e i + (a.getD i 0 + e.getD i 0)) % 256)) = tagL a e (i + 1) ++ List.replicate (16 - (i + 1)) 0 := by
  rw [List.set_append_right _ _ (by rw [tagL_len]; omega), tagL_len, Nat.sub_self, show 16 - i = (16 - (i + 1)) + 1 by omega, List.replicate_succ, List.set_cons_zero]
  simp only [tagL]
  rw [List.range_succ, List.map_append]
  simp
theorem u8_of (o x k : Nat) : Value.int .u8 (((o : Int) + ((x : Int) + (k : Int))) % 256) = vB (UInt8.ofNat ((o + (x + k)) % 256)) := by
  unfold vB
  congr 1
  have : (UInt8.ofNat ((o + (x + k)) % 256)).toNat = (o + (x + k)) % 256 := by simp
  rw [this]
  omega
theorem run_blk {P : Program} {w : World} {g : Nat} {t : TypeId} {L : List UInt8} (src dst e : TypeId) (hs : P.underlying src = some (.slice e)) (he : P.underlying e = some (.int .u8)) (hd : P.underlying dst = some .string) {c n : Nat} (hn : L.length = n) (h : Blk w g t (L.map vB).toArray) :
    (convert src dst (.slice (some ⟨g, 0, none⟩) n c)).run P w = .ok (.string ⟨L.toArray⟩) w := by
  subst hn
  refine run_convert_bytes_back w src dst e ⟨g, 0, none⟩ c L hs he hd fun j hj => ?_
  rw [Addr.add_lit, Nat.zero_add, h.cell j, List.getElem?_toArray, List.getElem?_map, List.getElem?_eq_getElem hj]
  rfl
/-- what holds between the parts -/
def TagAt (g gr c : Nat) (cur : Array Value) (E : List Nat) (w : World) (pre : List P16) (W : World) : Prop :=
  (Blk W g 29 #[.slice (some ⟨gr, 0, none⟩) 17 c] ∧ Blk W gr 3 cur) ∧ (∃ ga, Blk W (g + 1 + 1) 29 #[.slice (some ⟨ga, 0, none⟩) 17 17] ∧ Row vN W ga 3 (accR E pre)) ∧ Below w.heap.size w W ∧ g + 1 + 1 + 1 + 1 ≤ W.heap.size
theorem TagAt.own {g gr c : Nat} {cur : Array Value} {E : List Nat} {w : World} {pre : List P16} {W W' : World} {row : Option Nat} (h : TagAt g gr c cur E w pre W) (hw : w.heap.size ≤ g) (hg : W.grownBy W' row) (hr : ∀ r, row = some r → g ≤ r ∧ ∃ o : Obj, W.heap[r]? = some o ∧ o.isCells = false) : TagAt g gr c cur E w pre W' := by
  obtain ⟨⟨h1, h2⟩, ⟨ga, h3, h4⟩, h5, h6⟩ := h
  have hr' := fun r e => (hr r e).2
  exact ⟨⟨blk_kept h1 hg hr', blk_kept h2 hg hr'⟩, ⟨ga, blk_kept h3 hg hr', blk_kept h4 hg hr'⟩, h5.grown hg h5.size (fun k e => by have := (hr k e).1; omega), Nat.le_trans h6 hg.size⟩
set_option maxHeartbeats 1000000 in
set_option maxRecDepth 100000 in
theorem tag_any (key s : ByteArray) (w : World) (hk : key.size = 32) (hs : s.size ≤ 8200) :
    Calls Tryz.prog 116 #[.string key, .string s] w fun r w' => r = .returned (.tuple #[.string (tagB key s), .int .i64 0]) ∧ Below w.heap.size w w' := by
  have HK := Lib.hid hk
  have t1 : ((key.size : Int) != 32) = false := by simp; omega
  have t2 : decide (8200 < (s.size : Int)) = false := by simp; omega
  have hk2 : key.size ≤ 32 := by omega
  have hk3 : (16 : Int) ≤ (key.size : Int) := by omega
  have hcz := clampB_size (key.extract 0 16) (by simp; omega)
  obtain ⟨q, hq⟩ : ∃ q, key.extract 0 16 = q := ⟨_, rfl⟩
  have hq16 : q.size = 16 := by rw [← hq]; simp; omega
  rw [hq] at hcz
  have HQ := Lib.hid (And.intro hq hq16)
  obtain ⟨cc, hcc⟩ : ∃ cc, clampB q = cc := ⟨_, rfl⟩
  rw [hcc] at hcz
  have HCC := Lib.hid hcc
  have HC := Lib.hid hcz
  have hmk := make17
  clear hk hcz hcc hq16
  refine (callsIn_wide (n := 10)).1 ?_
  refine callsIn_of_wp_marks Tryz.func116 rfl trivial ?_ rfl
  simp only [Tryz.ntmps116, List.size_toArray, List.length_cons, List.length_nil, Nat.reduceAdd, Nat.reduceSub, Array.replicate_succ, Array.replicate_zero, List.push_toArray, List.append_toArray, List.nil_append, List.cons_append]
  gi_wp2_with fail
  refine ⟨trivial, ?_⟩
  gi_at_call 126
  refine (callsIn_wide.2 (clamp_b q _ HQ.out.2)).mono ?_
  rintro e w1 ⟨rfl, hb1⟩
  rw [HCC.out]
  have hs1 := hb1.size
  gi_wp2_with fail
  refine ⟨trivial, ?_⟩
  gi_at_call 127
  refine (callsIn_wide.2 (digits_of cc (some ⟨w1.heap.size, 0, none⟩) 1 0 _ (num_slr (t := 3) (L := [0]) (Blk.new w1 _ _) (by simp) rfl) (by rw [HC.out]; omega))).mono ?_
  rintro e w2 ⟨A2, c2, rfl, hR2, hc21, hc22, hb2⟩
  have hB2 : Below w.heap.size w w2 := Below.trans (by go_grown) (hb2.mono (by simp; omega))
  have hs2 := hB2.size
  clear hb2
  rw [HC.out] at hR2 hc21 ⊢
  obtain ⟨gr, cur, rfl, hgr, hBr, hcur⟩ := nrow_blk hR2 (by rw [List.length_append, bytesN_len, HC.out]; rfl) (by omega)
  have HBr := Lib.hid hBr
  have HCu := Lib.hid hcur
  clear hR2 hBr hcur
  gi_wp2_with fail
  refine ⟨trivial, ?_⟩
  gi_at_call 128
  refine (parts_in Fence.wide _ trivial rfl s _).mono ?_
  rintro e w3 ⟨rfl, rfl⟩
  clear hmk
  gi_wp2_with fail
  have hT := tagL_all HK.out HQ.out.1 HCC.out s
  obtain ⟨E, hE⟩ : ∃ E, bytesN cc ++ [0] = E := ⟨_, rfl⟩
  rw [hE] at hT HCu
  have hEg : Digits E := by rw [← hE, ← HCC.out, ← HQ.out.1]; exact keyR_good key HK.out
  have HE := Lib.hid hEg
  have HTL := Lib.hid hT
  clear hE hT hEg
  have hI0 : TagAt w2.heap.size gr c2 cur E w [] ((((w2.alloc (.cells #[.slice (some ⟨gr, 0, none⟩) 17 c2] 29)).alloc (.cells #[.int .i64 0, .int .i64 0, .int .i64 0, .int .i64 0, .int .i64 0, .int .i64 0, .int .i64 0, .int .i64 0, .int .i64 0, .int .i64 0, .int .i64 0, .int .i64 0, .int .i64 0, .int .i64 0, .int .i64 0, .int .i64 0, .int .i64 0] 3)).alloc (.cells #[.slice (some ⟨w2.heap.size + 1, 0, none⟩) 17 17] 29)).alloc (.cells #[.string s] 9)) := by
    refine ⟨⟨(((Blk.new w2 _ _).alloc _).alloc _).alloc _, (((HBr.out.alloc _).alloc _).alloc _).alloc _⟩, ⟨w2.heap.size + 1, (Blk.new_at (by simp) _ _).alloc _, ((Blk.new_at (by simp) _ _).alloc _).alloc _⟩, by go_grown, by simp⟩
  have hbs := Blk.new_at (g := w2.heap.size + 1 + 1 + 1) (w := ((w2.alloc (.cells #[.slice (some ⟨gr, 0, none⟩) 17 c2] 29)).alloc (.cells #[.int .i64 0, .int .i64 0, .int .i64 0, .int .i64 0, .int .i64 0, .int .i64 0, .int .i64 0, .int .i64 0, .int .i64 0, .int .i64 0, .int .i64 0, .int .i64 0, .int .i64 0, .int .i64 0, .int .i64 0, .int .i64 0, .int .i64 0] 3)).alloc (.cells #[.slice (some ⟨w2.heap.size + 1, 0, none⟩) 17 17] 29)) (by simp) 9 #[.string s]
  generalize hW0 : (((w2.alloc (.cells #[.slice (some ⟨gr, 0, none⟩) 17 c2] 29)).alloc (.cells #[.int .i64 0, .int .i64 0, .int .i64 0, .int .i64 0, .int .i64 0, .int .i64 0, .int .i64 0, .int .i64 0, .int .i64 0, .int .i64 0, .int .i64 0, .int .i64 0, .int .i64 0, .int .i64 0, .int .i64 0, .int .i64 0, .int .i64 0] 3)).alloc (.cells #[.slice (some ⟨w2.heap.size + 1, 0, none⟩) 17 17] 29)).alloc (.cells #[.string s] 9) = W0 at hI0 hbs ⊢
  have hsz0 : W0.heap.size = w2.heap.size + 1 + 1 + 1 + 1 := by rw [← hW0]; simp
  clear hW0
  refine wpIn_rangeFunc_ownH rfl (by omega) (gf := 134) (lb := #[.pointer (some ⟨w2.heap.size + 1 + 1 + 1, 0, none⟩)]) rfl trivial (enters_of Tryz.func134 (by kernel_rfl) rfl)
    (encs := fun x : P16 => #[.string x.x]) (Kp := Kept (w2.heap.size + 1 + 1 + 1)) (S := fun xs => xs = partsP s) (Sp := fun pre => pre <+: partsP s) (N := (partsP s).length) (w0 := W0)
    (fun l J Jx W hW hJ hJx hY h0 => parts1_in Fence.wide _ trivial rfl (by omega) l (w2.heap.size + 1 + 1 + 1) s J Jx (Kept (w2.heap.size + 1 + 1 + 1)) (Kept.refl _) (fun _ _ _ => Kept.trans) (fun A B h => h.cell 0) hY W
      ((hW.cell (p := ⟨w2.heap.size + 1 + 1 + 1, 0, none⟩) (by simp; omega)).trans (hbs.cells 0 _ rfl)) (by omega) h0)
    Kept.trans (fun W l o o' hl h1 h2 h3 => Kept.below (belowK_b (n₀ := w2.heap.size + 1 + 1 + 1 + 1) (w := W0) (by omega) W l o o' hl h1 h2 h3) (by omega)) (Below.refl _ _) (fun _ => rfl)
    (fun pre W => TagAt w2.heap.size gr c2 cur E w pre W)
    (fun _ _ _ => False)
    (fun st W W' row hs hg hr => TagAt.own hs (by omega) hg (fun r e => ⟨by have := (hr r e).1; omega, (hr r e).2⟩))
    (fun _ _ _ _ _ h _ _ => h.elim)
    hI0
    (fun x a' W => a' = { tmps := #[.string key, .string s, undef, undef, .string ⟨#[]⟩, .int .i64 0, .string cc, .bool true, .pointer (some ⟨w2.heap.size, 0, none⟩), .pointer (some ⟨w2.heap.size + 1 + 1, 0, none⟩), .string x.x, undef, undef, undef, .string key, .int .i64 key.size, .bool false, .string s, .int .i64 s.size, .bool false, .tuple #[.string cc, .bool true], .string key, .string q, .tuple #[.string cc, .bool true], .string cc, .bool true, .string cc, .slice (some ⟨w1.heap.size, 0, none⟩) 1 1, .slice (some ⟨gr, 0, none⟩) 17 c2, .slice (some ⟨w2.heap.size + 1, 0, none⟩) 17 17, .string s, .func (.func 134) #[] #[.pointer (some ⟨w2.heap.size + 1 + 1 + 1, 0, none⟩)], .string x.x, undef, undef, undef, undef, undef, undef, undef, undef, undef, undef, undef, undef, undef, undef, undef, undef, undef, undef, undef, undef, undef, undef, undef, undef, undef, undef, undef, undef, undef, undef, undef, undef, undef, undef, undef], defers := [] })
    (fun _ _ _ _ _ _ h _ _ => h)
    ?assign ?body ?done ?stop
  case assign =>
    rintro l pre x W K hI hK
    gi_wp2
    exact hK _ _ (KeepsFrom.refl _ _) (Kept.refl _ _) hI rfl
  case body =>
    as_aux_lemma =>
      rintro l pre x a' W hl _ ⟨⟨hA8, hAr⟩, ⟨ga, hA9, hRa⟩, hB, hzW⟩ rfl hlt
      have HA8 := Lib.hid hA8
      have HAr := Lib.hid hAr
      have HA9 := Lib.hid hA9
      have HRa := Lib.hid hRa
      have c8 := hA8.cells 0 _ rfl
      have c9 := hA9.cells 0 _ rfl
      simp only [List.getElem_toArray, List.getElem_cons_zero] at c8 c9
      have hgaW := hRa.lt
      have hgrW := hAr.lt
      clear hA8 hAr hA9 hRa hbs
      gi_wp2_with fail
      refine ⟨trivial, ?_⟩
      gi_at_call 129
      refine (CallsIn.inRound l (callsIn_wide.2 (tstep_good (accR E pre) E (some ⟨ga, 0, none⟩) (some ⟨gr, 0, none⟩) 17 c2 x.x W (num_slr HRa.out hgaW (by rw [(accR_good E pre).1])) (cur_slr HAr.out HCu.out hgrW HE.out.1) (accR_good E pre) HE.out (by omega) (by omega) (by omega) (by have := hc22; unfold maxLen at this; omega) x.ok.2 x.ok.1))).mono ?_
      rintro e W1 ⟨gn, rfl, hRn, hgn, hb1⟩
      have HA91 := Lib.hid (HA9.out.below hb1 HA9.out.lt)
      have HA81 := Lib.hid (HA8.out.below hb1 HA8.out.lt)
      have HAr1 := Lib.hid (HAr.out.below hb1 hgrW)
      have HRn := Lib.hid hRn
      have hB1 := hB.trans (hb1.mono hB.size)
      have HKO := Lib.hid (keepsOthers_below hb1)
      have HKe := Lib.hid (Kept.below (B := w2.heap.size + 1 + 1 + 1) hb1 (by omega))
      have hs1' := hb1.size
      have hg9 := HA9.out.lt
      have hne := HAr.out.ne_ HA9.out (show 3 ≠ 29 by decide)
      have c91 := HA91.out.cells 0 _ rfl
      have f91 := HA91.out.frozen 0
      simp only [List.getElem_toArray, List.getElem_cons_zero] at c91
      clear hb1 hRn c8 c9
      gi_wp2_with fail
      refine ⟨(HKO.out.trans (keepsOthers_setCell _ _ _ _ _ _ _ HA91.out)).from _, HKe.out.trans (Kept.setCell (by omega) _ _), ?_⟩
      refine (show TagAt w2.heap.size gr c2 cur E w (pre ++ [x]) _ from ?_)
      unfold TagAt
      rw [accR_snoc]
      refine ⟨⟨HA81.out.far (show w2.heap.size ≠ w2.heap.size + 1 + 1 by omega) _, HAr1.out.far hne _⟩, ⟨gn, ?_, HRn.out.far (show gn ≠ w2.heap.size + 1 + 1 by omega) _⟩, ?_, ?_⟩
      · have := HA91.out.set_ 0 (.slice (some ⟨gn, 0, none⟩) 17 17)
        simpa using this
      · exact hB1.setCell (show w.heap.size ≤ w2.heap.size + 1 + 1 by omega) _
      · simp [World.setCell]; omega
  case done =>
    as_aux_lemma =>
      rintro D ys W hD rfl ⟨⟨hA8, hAr⟩, ⟨ga, hA9, hRa⟩, hB, hzW⟩ hK
      have HA9 := Lib.hid hA9
      have HRa := Lib.hid hRa
      have HAcc := Lib.hid (accR_good E (partsP s))
      have hlD := (Array.getElem?_eq_some_iff.1 hK).1
      have HKD := Lib.hid hK
      have hmk16 := make16
      clear hA8 hAr hA9 hRa hbs hI0 hK
      gi_wp2_with fail
      have hR0 : Hid (Row vB (W.alloc (.cells (List.replicate 16 (Value.int .u8 0)).toArray 5)) W.heap.size 5 (tagL (accR E (partsP s)) (endR key) 0 ++ List.replicate (16 - 0) 0)) := Lib.hid (Blk.new _ _ _)
      have hga := HRa.out.lt
      gi_loopw [12, 43] (fun sv iv wr => ∃ i o : Nat, i ≤ 16 ∧ iv = .int .i64 i ∧ sv = .int .i64 o ∧ Hid (overS (accR E (partsP s)) (endR key) i = o) ∧ o ≤ 2 ∧ Hid (Row vB wr W.heap.size 5 (tagL (accR E (partsP s)) (endR key) i ++ List.replicate (16 - i) 0)) ∧ Below W.heap.size W wr) (fun _ iv _ => 16 - (intOf iv).toNat)
      case atStart => exact ⟨0, 0, by omega, rfl, rfl, rfl, by omega, hR0, by go_grown⟩
      case round =>
        clear hR0
        obtain ⟨i, o, hi, rfl, rfl, HO, ho, HR, hBr⟩ := hrel
        by_cases hlt : i < 16
        · have hx := getD_at (L := accR E (partsP s)) (k := i) (by rw [HAcc.out.1]; omega)
          have hx1 := HAcc.out.2.1 _ (List.mem_of_getElem? hx)
          obtain ⟨j, hj⟩ : ∃ j, 16 + i = j := ⟨_, rfl⟩
          have hjk : j < key.size := by have := HK.out; omega
          have hy : (endR key).getD i 0 = key[j].toNat := by
            unfold endR
            rw [List.getD_eq_getElem?_getD, List.getElem?_drop, hj, bytesN_get key j hjk]; rfl
          have hy1 : key[j].toNat < 256 := key[j].toNat_lt
          have hstep := tagL_step (accR E (partsP s)) (endR key) i hlt
          have hover : overS (accR E (partsP s)) (endR key) (i + 1) = (o + ((accR E (partsP s)).getD i 0 + key[j].toNat)) / 256 := by rw [overS, HO.out, hy]
          rw [HO.out, hy] at hstep
          have c9 := (HA9.out.below hBr HA9.out.lt).cells 0 _ rfl
          simp only [List.getElem_toArray, List.getElem_cons_zero] at c9
          have cx := (HRa.out.below hBr hga).get hx
          obtain ⟨z, hz⟩ : ∃ z, (tagL (accR E (partsP s)) (endR key) i ++ List.replicate (16 - i) 0)[i]? = some z := ⟨_, List.getElem?_eq_getElem (by rw [List.length_append, tagL_len, List.length_replicate]; omega)⟩
          have cz := HR.out.get hz
          have fz := HR.out.free i
          simp only [vN, vB] at cx cz
          generalize (accR E (partsP s)).getD i 0 = x at hx hx1 hstep hover cx
          have i0 : (0 : Int) ≤ i := by omega
          have i1 : (i : Int) < 16 := by omega
          have i17 : (i : Int) < 17 := by omega
          have j0 : (0 : Int) ≤ j := by omega
          have jk : (j : Int) < (key.size : Int) := by omega
          have ej : (16 : Int) + (i : Int) = (j : Int) := by omega
          have wj : IntKind.i64.wrap (j : Int) = (j : Int) := wrap_i64_nat _ (by omega)
          have hgl := HR.out.lt
          have HST := Lib.hid (And.intro hstep hover)
          clear hx hy hz hstep hover hj
          as_aux_lemma =>
            gi_wp2_with fail
            gi_region
            all_goals
              gi_wp2_with fail
              go_roundw
              case rel =>
                refine ⟨i + 1, (o + (x + key[j].toNat)) / 256, by omega, by go_num, by go_num, Lib.hid HST.out.2, by omega, Lib.hid ?_, by go_grown⟩
                rw [u8_of, ← HST.out.1]
                exact HR.out.set_ i _
              case measure => simp [intOf]; omega
        · obtain rfl : i = 16 := by omega
          have hblk : Blk wr W.heap.size 5 ((tagL (accR E (partsP s)) (endR key) 16).map vB).toArray := by
            have := HR.out
            rw [Nat.sub_self, List.replicate_zero, List.append_nil] at this
            exact this
          have hcv := run_blk (P := Tryz.prog) (L := tagL (accR E (partsP s)) (endR key) 16) (n := 16) (c := 16) 113 9 5 Tryz.underlying113 Tryz.underlying5 Tryz.underlying9 (tagL_len _ _ _) hblk
          have hK1 := (hBr.block D hlD).trans HKD.out
          have hBw := hB.trans (hBr.mono hB.size)
          clear hblk HO HR
          gi_wp2_with fail
          refine ⟨by simp, .inl ⟨_, _, rfl, run_takeDeferred hK1, ?_⟩⟩
          exact ⟨_, results_tmp2 rfl _ _ _, by simp; rw [HTL.out], hBw.trans (belowK_b (n₀ := w.heap.size) (w := W0) (by omega) wr D _ _ hD hK1 rfl rfl)⟩
  case stop =>
    rintro D cd pre W hD hpre h hK0
    exact h.elim
end Go.Proofs.YtpkomloblhbkiaaGreatDoor
/- keyholeref01.Many. -/
namespace Go.Proofs.YtpkomloblhbkiaaGreatDoor
open Go.RowKit
def tmanyB (c : UInt8) (n : Nat) : ByteArray := ⟨(List.replicate n c).toArray⟩
theorem tmanyB_size (c : UInt8) (n : Nat) : (tmanyB c n).size = n := by show (List.replicate n c).toArray.size = n; simp
theorem tmany_step (c : UInt8) (n k : Nat) (h : k < n) : (List.replicate k c ++ List.replicate (n - k) 0).set k c = List.replicate (k + 1) c ++ List.replicate (n - (k + 1)) 0 := by
  rw [List.set_append_right _ _ (by simp), List.length_replicate, Nat.sub_self, show n - k = (n - (k + 1)) + 1 by omega, List.replicate_succ, List.set_cons_zero, List.replicate_succ']
  simp
end Go.Proofs.YtpkomloblhbkiaaGreatDoor
/- nonce, plain: a nonce's bytes, a number's digits. -/
namespace Go.Proofs.YtpkomloblhbkiaaGreatDoor
def lowL (n : Nat) : Nat → List UInt8
  | 0 => []
  | k + 1 => UInt8.ofNat (n / 2 ^ (8 * k) % 256) :: lowL n k
theorem lowL_len (n k : Nat) : (lowL n k).length = k := by
  induction k with
  | zero => rfl
  | succ k ih => rw [lowL, List.length_cons, ih]
def beL (n k : Nat) : List UInt8 := List.replicate (12 - k) 0 ++ lowL n k
theorem beL_len (n k : Nat) (h : k ≤ 12) : (beL n k).length = 12 := by simp [beL, lowL_len]; omega
theorem beL_set (n k : Nat) (h : k < 12) : (beL n k).set (11 - k) (UInt8.ofNat (n / 2 ^ (8 * k) % 256)) = beL n (k + 1) := by
  unfold beL
  rw [show 12 - k = (11 - k) + 1 by omega, List.replicate_succ', List.append_assoc, List.set_append_right _ _ (by simp), List.length_replicate, Nat.sub_self, List.singleton_append, List.set_cons_zero, lowL, show 12 - (k + 1) = 11 - k by omega]
def nonB (n : Nat) : ByteArray := ⟨(beL n 8).toArray⟩
theorem nonB_size (n : Nat) : (nonB n).size = 12 := by
  show (beL n 8).toArray.size = 12
  rw [List.size_toArray, beL_len n 8 (by decide)]
def nonF (n : Int) : ByteArray × Int := if 0 ≤ n ∧ n ≤ 1000000000 then (nonB n.toNat, 0) else (⟨#[]⟩, 1)
/-- the digits of a number -/
def digB (n : Nat) : ByteArray := ⟨(Lib.decDigits n).toArray⟩
def isDig (c : UInt8) : Bool := decide (48 ≤ c.toNat) && decide (c.toNat ≤ 57)
/-- the number that the first k digits of l tell -/
def valTo (l : List UInt8) : Nat → Nat
  | 0 => 0
  | k + 1 => 10 * valTo l k + ((l.getD k 0).toNat - 48)
theorem dig_iff (c : UInt8) : isDig c = true ↔ 48 ≤ c.toNat ∧ c.toNat ≤ 57 := by simp [isDig]
theorem valTo_lt (l : List UInt8) (k : Nat) (h : ∀ i, i < k → isDig (l.getD i 0) = true) : valTo l k < 10 ^ k := by
  induction k with
  | zero => exact Nat.one_pos
  | succ k ih =>
    have h1 := ih fun i hi => h i (by omega)
    have h2 := (dig_iff _).1 (h k (by omega))
    rw [valTo, Nat.pow_succ]
    omega
/-- do the bytes tell a number, with no 0 ahead of others? -/
def digsB (l : List UInt8) : Bool := l.all isDig
def numOk (l : List UInt8) : Bool := decide (1 ≤ l.length) && decide (l.length ≤ 10) && !(decide (1 < l.length) && l.getD 0 0 == 48) && digsB l
theorem digs_get {l : List UInt8} (h : digsB l = true) (i : Nat) (hi : i < l.length) : isDig (l.getD i 0) = true := by
  unfold digsB at h
  rw [List.all_eq_true] at h
  rw [List.getD_eq_getElem?_getD, List.getElem?_eq_getElem hi]
  exact h _ (List.getElem_mem hi)
end Go.Proofs.YtpkomloblhbkiaaGreatDoor
/- nonce: Bytes, the program's and the document's. -/
namespace Go.Proofs.YtpkomloblhbkiaaGreatDoor
open Go.RowKit
theorem nrun_blk {P : Program} {w : World} {g : Nat} {t : TypeId} {L : List UInt8} (src dst e : TypeId) (hs : P.underlying src = some (.slice e)) (he : P.underlying e = some (.int .u8)) (hd : P.underlying dst = some .string) {c n : Nat} (hn : L.length = n) (h : Blk w g t (L.map vB).toArray) :
    (convert src dst (.slice (some ⟨g, 0, none⟩) n c)).run P w = .ok (.string ⟨L.toArray⟩) w := by
  subst hn
  refine run_convert_bytes_back w src dst e ⟨g, 0, none⟩ c L hs he hd fun j hj => ?_
  rw [Addr.add_lit, Nat.zero_add, h.cell j, List.getElem?_toArray, List.getElem?_map, List.getElem?_eq_getElem hj]
  rfl
theorem make12 (w : World) : (Instr.makeSlice 113 (.int .i64 12) (.int .i64 12)).run Tryz.prog w = .ok (.slice (some ⟨w.heap.size, 0, none⟩) 12 12) (w.alloc (.cells (List.replicate 12 (Value.int .u8 0)).toArray 5)) :=
  run_mkrow (P := Tryz.prog) 113 5 (.int .u8 0) 1 Tryz.underlying113 byte_info rfl 12 (by omega) (by omega) w
theorem vB_mod (x : Nat) : vB (UInt8.ofNat (x % 256)) = .int .u8 ((x % 256 : Nat) : Int) := by
  unfold vB
  rw [show (UInt8.ofNat (x % 256)).toNat = x % 256 by simp]
theorem beL_zero (n : Nat) : beL n 0 = List.replicate 12 0 := by simp [beL, lowL]
theorem bytes_no (n : Int) (w : World) (h : n < 0 ∨ 1000000000 < n) :
    Calls Tryz.prog 97 #[.int .i64 n] w fun e w' => e = .returned (.tuple #[.string ⟨#[]⟩, .int .i64 1]) ∧ w = w' := by
  rcases h with h | h
  · go_enter Tryz.func97, Tryz.ntmps97
    go_wp2
    go_ret2
    exact ⟨rfl, rfl⟩
  · have h0 : 0 ≤ n := by omega
    go_enter Tryz.func97, Tryz.ntmps97
    go_wp2
    go_ret2
    exact ⟨rfl, rfl⟩
set_option maxRecDepth 100000 in
set_option maxHeartbeats 800000 in
theorem bytes_in (n : Nat) (w : World) (h : n ≤ 1000000000) :
    Calls Tryz.prog 97 #[.int .i64 n] w fun e w' => e = .returned (.tuple #[.string (nonB n), .int .i64 0]) ∧ Below w.heap.size w w' := by
  have hmk := make12 w
  have hR0 : Hid (Row vB (w.alloc (.cells (List.replicate 12 (Value.int .u8 0)).toArray 5)) w.heap.size 5 (beL n 0)) := Lib.hid (by
    rw [beL_zero]
    exact Row.new (f := vB) w 5 12 0)
  obtain ⟨Z, hZ⟩ : ∃ Z : Array Value, (List.replicate 12 (Value.int .u8 0)).toArray = Z := ⟨_, rfl⟩
  rw [hZ] at hmk hR0
  clear hZ
  go_enter Tryz.func97, Tryz.ntmps97
  go_wp2_with fail
  clear hmk
  go_loopw [13] (fun iv wr => ∃ k : Nat, k ≤ 8 ∧ iv = .int .i64 k ∧ Hid (Row vB wr w.heap.size 5 (beL n k)) ∧ Below w.heap.size w wr) (fun iv _ => 8 - (intOf iv).toNat)
  case atStart => exact ⟨0, by omega, rfl, hR0, by go_grown⟩
  case round =>
    clear hR0
    obtain ⟨k, hk, rfl, HR, hB⟩ := hrel
    by_cases hlt : k < 8
    · have hlen := beL_len n k (by omega)
      obtain ⟨j, hj⟩ : ∃ j, 11 - k = j := ⟨_, rfl⟩
      have hji : (11 : Int) - (k : Int) = (j : Int) := by omega
      obtain ⟨x, hx⟩ : ∃ x, (beL n k)[j]? = some x := ⟨_, List.getElem?_eq_getElem (by omega)⟩
      have c0 := HR.out.get hx
      have f0 := HR.out.free j
      have j0 : (0 : Int) ≤ j := by omega
      have j1 : (j : Int) < 12 := by omega
      obtain ⟨sh, hsh⟩ : ∃ sh, 8 * k = sh := ⟨_, rfl⟩
      have e1 : (8 : Int) * (k : Int) = (sh : Int) := by omega
      have hs64 : sh ≤ 56 := by omega
      have HE : Hid (Row vB (wr.setCell ⟨w.heap.size, j, none⟩ (.int .u8 ((n : Int) / 2 ^ sh % 256))) w.heap.size 5 (beL n (k + 1))) := Lib.hid (by
        have h1 := HR.out.set_ j (UInt8.ofNat (n / 2 ^ (8 * k) % 256))
        rw [← hj, beL_set n k (by omega), vB_mod, hsh, hj] at h1
        have h2 : (((n / 2 ^ sh % 256 : Nat)) : Int) = (n : Int) / 2 ^ sh % 256 := by simp
        rw [h2] at h1
        exact h1)
      have hlt2 := HR.out.lt
      unfold vB at c0
      clear hx hlen hj hsh HR
      go_wp2_with fail
      go_roundw
      case rel => exact ⟨k + 1, by omega, by go_num, HE, by go_grown⟩
      case measure => simp [intOf]; omega
    · obtain rfl : k = 8 := by omega
      have hcv := nrun_blk (P := Tryz.prog) (L := beL n 8) (n := 12) (c := 12) 113 9 5 Tryz.underlying113 Tryz.underlying5 Tryz.underlying9 (beL_len n 8 (by decide)) HR.out
      go_wp2_with fail
      go_ret2
      exact ⟨rfl, hB⟩
theorem bytes_any (n : Int) (w : World) :
    Calls Tryz.prog 97 #[.int .i64 n] w fun e w' => e = .returned (.tuple #[.string (nonF n).1, .int .i64 (nonF n).2]) ∧ Below w.heap.size w w' := by
  unfold nonF
  by_cases h : 0 ≤ n ∧ n ≤ 1000000000
  · rw [if_pos h]
    obtain ⟨m, rfl⟩ := Int.eq_ofNat_of_zero_le h.1
    exact bytes_in m w (by omega)
  · rw [if_neg h]
    refine (bytes_no n w (by omega)).mono ?_
    rintro e w' ⟨rfl, rfl⟩
    exact ⟨rfl, Below.refl _ _⟩
end Go.Proofs.YtpkomloblhbkiaaGreatDoor
namespace Go.Proofs.YtpkomloblhbkiaaGreatDoor
open Go.RowKit
end Go.Proofs.YtpkomloblhbkiaaGreatDoor
/- nonce: the number that digits tell: the program's read. -/
namespace Go.Proofs.YtpkomloblhbkiaaGreatDoor
open Go.RowKit
theorem nget_list (s : ByteArray) (k : Nat) (h : k < s.size) : s.data.toList.getD k 0 = s[k] := by
  rw [List.getD_eq_getElem?_getD, List.getElem?_eq_getElem (by simpa using h)]
  rfl
def numF (s : ByteArray) : Option Nat := if numOk s.data.toList = true ∧ valTo s.data.toList s.data.toList.length ≤ 1000000000 then some (valTo s.data.toList s.data.toList.length) else none
theorem numOk_iff (l : List UInt8) : numOk l = true ↔ 1 ≤ l.length ∧ l.length ≤ 10 ∧ ¬ (1 < l.length ∧ l.getD 0 0 = 48) ∧ digsB l = true := by
  unfold numOk
  generalize l.getD 0 0 = c
  generalize l.length = n
  generalize digsB l = d
  cases d <;> by_cases hc : c = 48 <;> simp [hc] <;> omega
theorem digs_all {l : List UInt8} (h : ∀ i, i < l.length → isDig (l.getD i 0) = true) : digsB l = true := by
  unfold digsB
  rw [List.all_eq_true]
  intro x hx
  obtain ⟨i, hi, rfl⟩ := List.mem_iff_getElem.1 hx
  have := h i hi
  rwa [List.getD_eq_getElem?_getD, List.getElem?_eq_getElem hi] at this
theorem digs_no {l : List UInt8} {i : Nat} (hi : i < l.length) (h : isDig (l.getD i 0) = false) : digsB l = false := by
  cases e : digsB l with
  | false => rfl
  | true => rw [digs_get e i hi] at h; exact absurd h (by decide)
theorem numF_no {s : ByteArray} (h : numOk s.data.toList = false) : numF s = none := by
  unfold numF
  rw [if_neg]
  rintro ⟨h1, _⟩
  rw [h] at h1
  exact absurd h1 (by decide)
theorem numOk_false {l : List UInt8} (h : ¬ (1 ≤ l.length ∧ l.length ≤ 10 ∧ ¬ (1 < l.length ∧ l.getD 0 0 = 48) ∧ digsB l = true)) : numOk l = false := by
  cases e : numOk l with
  | false => rfl
  | true => exact absurd ((numOk_iff l).1 e) h
def ReadDone (g : Nat) (s : ByteArray) (w : World) (e : Ending) (w' : World) : Prop :=
  (∃ v, numF s = some v ∧ e = .returned (.bool true) ∧ w' = (w.setCell ⟨g, 1, none⟩ (.int .i64 (v : Nat))).setCell ⟨g, 2, none⟩ (.int .i64 (v : Nat))) ∨ (numF s = none ∧ e = .returned (.bool false) ∧ w' = w)
set_option maxRecDepth 100000 in
set_option maxHeartbeats 2000000 in
theorem nread_any (g : Nat) (s : ByteArray) (a b c : Int) (w : World) (hB : Blk w g 104 #[.int .i64 a, .int .i64 b, .int .i64 c]) (hs : s.size ≤ 140737488351232) :
    Calls Tryz.prog 44 #[.pointer (some ⟨g, 0, none⟩), .string s] w fun e w' => ReadDone g s w e w' := by
  obtain ⟨l, hl⟩ : ∃ l, s.data.toList = l := ⟨_, rfl⟩
  have hll : l.length = s.size := by rw [← hl]; simp
  by_cases h1 : s.size < 1
  · have hno : numF s = none := numF_no (numOk_false (by rw [hl]; omega))
    have t1 : decide ((s.size : Int) < 1) = true := by simp; omega
    have HN := Lib.hid hno
    clear hno h1 hll hl
    go_enter Tryz.func44, Tryz.ntmps44
    go_wp2_with fail
    go_ret
    exact .inr ⟨HN.out, rfl, rfl⟩
  · have t1 : decide ((s.size : Int) < 1) = false := by simp; omega
    by_cases h2 : 10 < s.size
    · have hno : numF s = none := numF_no (numOk_false (by rw [hl]; omega))
      have t2 : decide (10 < (s.size : Int)) = true := by simp; omega
      have HN := Lib.hid hno
      clear hno h1 h2 hll hl
      go_enter Tryz.func44, Tryz.ntmps44
      go_wp2_with fail
      go_ret
      exact .inr ⟨HN.out, rfl, rfl⟩
    · have t2 : decide (10 < (s.size : Int)) = false := by simp; omega
      have hz : 0 < s.size := by omega
      have hg0 := nget_list s 0 hz
      rw [hl] at hg0
      have hb0 := (s[0]'hz).toNat_lt
      by_cases h3 : 1 < s.size ∧ s[0]'hz = 48
      · have hno : numF s = none := numF_no (numOk_false (by rw [hl, hg0, hll]; intro h; exact h.2.2.1 h3))
        have t3 : decide (1 < (s.size : Int)) = true := by simp; omega
        have t4 : (((s[0]'hz).toNat : Int) == 48) = true := by rw [h3.2]; rfl
        have HN := Lib.hid hno
        clear hno h3 hll hl hg0
        go_enter Tryz.func44, Tryz.ntmps44
        go_wp2_with fail
        go_ret
        exact .inr ⟨HN.out, rfl, rfl⟩
      · have h4 : ¬ (1 < l.length ∧ l.getD 0 0 = 48) := by rw [hg0, hll]; exact h3
        have hcase : (decide (1 < (s.size : Int)) = false) ∨ (decide (1 < (s.size : Int)) = true ∧ (((s[0]'hz).toNat : Int) == 48) = false) := by
          by_cases h5 : 1 < s.size
          · refine .inr ⟨by simp; omega, ?_⟩
            have : s[0]'hz ≠ 48 := fun e => h3 ⟨h5, e⟩
            have h6 : (s[0]'hz).toNat ≠ 48 := fun e => this (UInt8.toNat_inj.1 e)
            simp; omega
          · exact .inl (by simp; omega)
        have HL := Lib.hid (And.intro hl (And.intro hll h4))
        have HGet : Hid (∀ k (h : k < s.size), l.getD k 0 = s[k]) := Lib.hid (fun k h => by rw [← hl]; exact nget_list s k h)
        have hB2 := Lib.hid hB
        have h10 : s.size ≤ 10 := by omega
        clear hg0 h3 h4 hl hll hB h1 h2
        rcases hcase with t3 | ⟨t3, t4⟩
        all_goals
          go_enter Tryz.func44, Tryz.ntmps44
          go_wp2_with fail
          go_loopw [5, 27] (fun nv iv wr => ∃ k : Nat, k ≤ s.size ∧ iv = .int .i64 k ∧ nv = .int .i64 (valTo l k) ∧ Hid (∀ i, i < k → isDig (l.getD i 0) = true) ∧ w = wr) (fun _ iv _ => s.size - (intOf iv).toNat)
          case atStart => exact ⟨0, by omega, rfl, rfl, Lib.hid (fun i hi => absurd hi (by omega)), rfl⟩
          case round =>
            obtain ⟨k, hk, rfl, rfl, HD, rfl⟩ := hrel
            have hvl := valTo_lt l k HD.out
            have hpw : 10 ^ k ≤ 10 ^ 10 := Nat.pow_le_pow_right (by decide) (by omega)
            have hv10 : valTo l k ≤ 10000000000 := by omega
            obtain ⟨x, hx⟩ : ∃ x, valTo l k = x := ⟨_, rfl⟩
            rw [hx] at hv10 ⊢
            have HX := Lib.hid (And.intro hx HD.out)
            clear hvl hpw hx HD
            by_cases hlt : k < s.size
            · have hgk := HGet.out k hlt
              have hbk := (s[k]'hlt).toNat_lt
              by_cases hd : isDig (s[k]'hlt) = true
              · have hd2 := (dig_iff _).1 hd
                have u1 : decide (((s[k]'hlt).toNat : Int) < 48) = false := by simp; omega
                have u2 : decide (57 < ((s[k]'hlt).toNat : Int)) = false := by simp; omega
                obtain ⟨y, hy⟩ : ∃ y, (s[k]'hlt).toNat - 48 = y := ⟨_, rfl⟩
                have hyi : ((s[k]'hlt).toNat : Int) - 48 = (y : Int) := by omega
                have hy9 : y ≤ 9 := by omega
                have HV : Hid (valTo l (k + 1) = 10 * x + y) := Lib.hid (by rw [valTo, HX.out.1, hgk, hy])
                have HD2 : Hid (∀ i, i < k + 1 → isDig (l.getD i 0) = true) := Lib.hid (fun i hi => by
                  by_cases e : i = k
                  · rw [e, hgk]; exact hd
                  · exact HX.out.2 i (by omega))
                clear hgk hd hy
                go_wp2_with fail
                go_roundw
                case rel => exact ⟨k + 1, by omega, by go_num, by rw [HV.out]; go_num, HD2, by first | trivial | rfl⟩
                case measure => simp [intOf]; omega
              · have hd3 : isDig (l.getD k 0) = false := by rw [hgk]; simpa using hd
                have hno : numF s = none := numF_no (numOk_false (by
                  rw [HL.out.1]
                  intro h
                  rw [digs_no (by rw [HL.out.2.1]; exact hlt) hd3] at h
                  exact absurd h.2.2.2 (by decide)))
                have HN := Lib.hid hno
                have hd4 : (s[k]'hlt).toNat < 48 ∨ 57 < (s[k]'hlt).toNat := by
                  rcases Nat.lt_or_ge (s[k]'hlt).toNat 48 with h | h
                  · exact .inl h
                  · rcases Nat.lt_or_ge 57 (s[k]'hlt).toNat with h' | h'
                    · exact .inr h'
                    · exact absurd ((dig_iff _).2 ⟨h, h'⟩) hd
                clear hgk hd hd3 hno
                have hc2 : decide (((s[k]'hlt).toNat : Int) < 48) = true ∨ (decide (((s[k]'hlt).toNat : Int) < 48) = false ∧ decide (57 < ((s[k]'hlt).toNat : Int)) = true) := by
                  rcases Nat.lt_or_ge (s[k]'hlt).toNat 48 with h | h
                  · exact .inl (by simp; omega)
                  · exact .inr ⟨by simp; omega, by simp; omega⟩
                clear hd4
                rcases hc2 with u1 | ⟨u1, u2⟩
                all_goals
                  go_wp2_with fail
                  go_ret
                  exact .inr ⟨HN.out, rfl, rfl⟩
            · obtain rfl : k = s.size := by omega
              have hdg : digsB l = true := digs_all (fun i hi => HX.out.2 i (by rw [HL.out.2.1] at hi; exact hi))
              have hok : numOk s.data.toList = true := by
                rw [HL.out.1]
                exact (numOk_iff l).2 ⟨by rw [HL.out.2.1]; omega, by rw [HL.out.2.1]; exact h10, HL.out.2.2, hdg⟩
              by_cases hm : 1000000000 < x
              · have u1 : decide (1000000000 < (x : Int)) = true := by simp; omega
                have hno : numF s = none := by
                  unfold numF
                  rw [if_neg]
                  rw [HL.out.1, HL.out.2.1, HX.out.1]
                  omega
                have HN := Lib.hid hno
                clear hdg hok hno
                go_wp2_with fail
                go_ret
                exact .inr ⟨HN.out, rfl, rfl⟩
              · have u1 : decide (1000000000 < (x : Int)) = false := by simp; omega
                have hyes : numF s = some x := by
                  unfold numF
                  rw [if_pos ⟨hok, by rw [HL.out.1, HL.out.2.1, HX.out.1]; omega⟩, HL.out.1, HL.out.2.1, HX.out.1]
                have HN := Lib.hid hyes
                have c1 := hB2.out.cells 1 _ rfl
                have c2 := hB2.out.cells 2 _ rfl
                have f0 := hB2.out.frozen
                simp only [List.getElem_toArray, List.getElem_cons_zero, List.getElem_cons_succ] at c1 c2
                clear hdg hok hyes
                go_wp2_with fail
                go_ret
                exact .inl ⟨x, HN.out, rfl, rfl⟩
end Go.Proofs.YtpkomloblhbkiaaGreatDoor
