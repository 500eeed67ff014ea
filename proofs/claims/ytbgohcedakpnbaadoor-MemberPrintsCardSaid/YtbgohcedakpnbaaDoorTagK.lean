/- tag: Tag. -/
import Derived.Test.YtbgohcedakpnbaaDoorTagH
import Derived.Test.YtbgohcedakpnbaaDoorKeep
set_option linter.unusedVariables false
namespace Go.Proofs.YtbgohcedakpnbaaDoor
open Go.RowKit Go.Shelf
attribute [local go_sem] Oper.semAt_some
/-- the row behind some parts -/
def accR (E : List Nat) (pre : List P16) : List Nat := pre.foldl (fun a x => stepR a E (bytesN x.x)) zeroR
theorem accR_good (E : List Nat) (pre : List P16) : Digits (accR E pre) := by
  rcases List.eq_nil_or_concat pre with rfl | ⟨l, x, rfl⟩
  · exact zeroR_good
  · rw [accR, List.concat_eq_append, List.foldl_append]; exact stepR_good _ _ _
theorem accR_snoc (E : List Nat) (pre : List P16) (x : P16) : accR E (pre ++ [x]) = stepR (accR E pre) E (bytesN x.x) := by simp [accR]
def clampB (s : ByteArray) : ByteArray := ⟨(clampL s.data.toList).toArray⟩
theorem clampB_size (s : ByteArray) (h : s.size = 16) : (clampB s).size = 16 := by
  show (clampL s.data.toList).toArray.size = 16
  rw [List.size_toArray, clampL, clamp2_len, clamp1_len]
  simpa using h
/-- the digits that a key's first 16 bytes make -/
def keyR (key : ByteArray) : List Nat := bytesN (clampB (key.extract 0 16)) ++ [0]
theorem keyR_len (key : ByteArray) (h : key.size = 32) : (keyR key).length = 17 := by
  rw [keyR, List.length_append, bytesN_len, clampB_size _ (by simp; omega)]; rfl
theorem keyR_good (key : ByteArray) (h : key.size = 32) : Digits (keyR key) := by
  refine ⟨keyR_len key h, ?_, ?_⟩
  · intro x hx
    rcases List.mem_append.1 hx with h | h
    · exact bytesN_lt _ x h
    · rw [List.mem_singleton.1 h]; omega
  · rw [keyR, valD_snoc, Nat.zero_mul, Nat.add_zero]
    have h1 := valD_lt (bytesN (clampB (key.extract 0 16))) (bytesN_lt _)
    rw [bytesN_len, clampB_size _ (by simp; omega)] at h1
    have h3 : (256 : Nat) ^ 16 = 340282366920938463463374607431768211456 := by decide
    unfold primeP
    omega
/-- what is over behind i bytes -/
def overS (a e : List Nat) : Nat → Nat
  | 0 => 0
  | i + 1 => (overS a e i + (a.getD i 0 + e.getD i 0)) / 256
def tagL (a e : List Nat) (k : Nat) : List UInt8 := (List.range k).map fun i => UInt8.ofNat ((overS a e i + (a.getD i 0 + e.getD i 0)) % 256)
def endR (key : ByteArray) : List Nat := (bytesN key).drop 16
def tagB (key s : ByteArray) : ByteArray := ⟨(tagL (accR (keyR key) (partsP s)) (endR key) 16).toArray⟩
theorem tag_bad (key s : ByteArray) (w : World) (h : key.size ≠ 32) (hk : key.size ≤ 140737488351232) :
    Calls Tryd.prog 68 #[.string key, .string s] w fun e w' => e = .returned (.tuple #[.string ByteArray.empty, .int .i64 1]) ∧ w = w' := by
  have t1 : ((key.size : Int) != 32) = true := by simp; omega
  clear h
  go_enter Tryd.func68, Tryd.ntmps68
  go_wp2
  go_ret2
  exact ⟨rfl, rfl⟩
/-- a row of one's own, its block -/
theorem nrow_blk {w : World} {base n c : Nat} {A : Option Addr} {L : List Nat} (h : NRow w base (.slice A n c) L) (hn : L.length = n) (hpos : 0 < n) : ∃ g cur, A = some ⟨g, 0, none⟩ ∧ base ≤ g ∧ Blk w g 3 cur ∧ ∀ (i x : Nat), L[i]? = some x → cur[i]? = some (vN x) := by
  subst hn
  rcases h.2 with ⟨_, h0⟩ | ⟨g, cap, cur, hv, hb, hg, h1, h2, h3, h4⟩
  · omega
  · injection hv with hA
    refine ⟨g, cur, hA, hb, hg, fun i x hx => ?_⟩
    have hi : i < L.length := (List.getElem?_eq_some_iff.1 hx).1
    have := congrArg (fun l : List Value => l[i]?) h4
    simp only [List.getElem?_take, List.getElem?_map, hx, Option.map_some] at this
    rw [if_pos (by omega)] at this
    simpa using this
theorem cur_slr {w : World} {g B n : Nat} {cur : Array Value} {L : List Nat} (h : Blk w g 3 cur) (hc : ∀ (i x : Nat), L[i]? = some x → cur[i]? = some (vN x)) (hB : g < B) (hn : L.length = n) : SlR encI 1 w B (some ⟨g, 0, none⟩) n (ints L) := by
  subst hn
  refine SlR.ofC (by simp [ints]) hB ?_
  intro k x hx j v hv
  have hj : j = 0 := by
    have := (List.getElem?_eq_some_iff.1 hv).1
    simp [encI] at this; omega
  subst hj
  simp [encI] at hv
  subst hv
  unfold ints at hx
  rw [List.getElem?_map] at hx
  obtain ⟨y, hy, rfl⟩ := Option.map_eq_some_iff.1 hx
  have := (h.cell k).trans (hc k y hy)
  simpa [vN] using this
theorem clamp_b (s : ByteArray) (w : World) (hs : s.size = 16) :
    Calls Tryd.prog 84 #[.string s] w fun e w' => e = .returned (.tuple #[.string (clampB s), .bool true]) ∧ Below w.heap.size w w' := clamp_any s w hs
theorem tagL_all {key q cc : ByteArray} (hk : key.size = 32) (hq : key.extract 0 16 = q) (hc : clampB q = cc) (s : ByteArray) : tagB key s = ⟨(tagL (accR (bytesN cc ++ [0]) (partsP s)) (endR key) 16).toArray⟩ := by
  rw [tagB, keyR, hq, hc]
theorem make16 (w : World) : (Instr.makeSlice 54 (.int .i64 16) (.int .i64 16)).run Tryd.prog w = .ok (.slice (some ⟨w.heap.size, 0, none⟩) 16 16) (w.alloc (.cells (List.replicate 16 (Value.int .u8 0)).toArray 5)) :=
  run_mkrow (P := Tryd.prog) 54 5 (.int .u8 0) 1 Tryd.underlying54 byte_info rfl 16 (by omega) (by omega) w
theorem tagL_len (a e : List Nat) (k : Nat) : (tagL a e k).length = k := by simp [tagL]
theorem tagL_step (a e : List Nat) (i : Nat) (h : i < 16) : (tagL a e i ++ List.replicate (16 - i) 0).set i (UInt8.ofNat ((overS a e i + (a.getD i 0 + e.getD i 0)) % 256)) = tagL a e (i + 1) ++ List.replicate (16 - (i + 1)) 0 := by
  rw [List.set_append_right _ _ (by rw [tagL_len]; omega), tagL_len, Nat.sub_self, show 16 - i = (16 - (i + 1)) + 1 by omega, List.replicate_succ, List.set_cons_zero]
  simp only [tagL]
  rw [List.range_succ, List.map_append]
  simp
theorem u8_of (o x k : Nat) : Value.int .u8 (((o : Int) + ((x : Int) + (k : Int))) % 256) = vB (UInt8.ofNat ((o + (x + k)) % 256)) := by
  unfold vB
  congr 1
  have : (UInt8.ofNat ((o + (x + k)) % 256)).toNat = (o + (x + k)) % 256 := by simp
  rw [this]
  omega
theorem run_blk {P : Program} {w : World} {g : Nat} {t : TypeId} {L : List UInt8} (src dst e : TypeId) (hs : P.underlying src = some (.slice e)) (he : P.underlying e = some (.int .u8)) (hd : P.underlying dst = some .string) {c n : Nat} (hn : L.length = n) (h : Blk w g t (L.map vB).toArray) :
    (convert src dst (.slice (some ⟨g, 0, none⟩) n c)).run P w = .ok (.string ⟨L.toArray⟩) w := by
  subst hn
  refine run_convert_bytes_back w src dst e ⟨g, 0, none⟩ c L hs he hd fun j hj => ?_
  rw [Addr.add_lit, Nat.zero_add, h.cell j, List.getElem?_toArray, List.getElem?_map, List.getElem?_eq_getElem hj]
  rfl
/-- what holds between the parts -/
def TagAt (g gr c : Nat) (cur : Array Value) (E : List Nat) (w : World) (pre : List P16) (W : World) : Prop :=
  (Blk W g 39 #[.slice (some ⟨gr, 0, none⟩) 17 c] ∧ Blk W gr 3 cur) ∧ (∃ ga, Blk W (g + 1 + 1) 39 #[.slice (some ⟨ga, 0, none⟩) 17 17] ∧ Row vN W ga 3 (accR E pre)) ∧ Below w.heap.size w W ∧ g + 1 + 1 + 1 + 1 ≤ W.heap.size
theorem TagAt.own {g gr c : Nat} {cur : Array Value} {E : List Nat} {w : World} {pre : List P16} {W W' : World} {row : Option Nat} (h : TagAt g gr c cur E w pre W) (hw : w.heap.size ≤ g) (hg : W.grownBy W' row) (hr : ∀ r, row = some r → g ≤ r ∧ ∃ o : Obj, W.heap[r]? = some o ∧ o.isCells = false) : TagAt g gr c cur E w pre W' := by
  obtain ⟨⟨h1, h2⟩, ⟨ga, h3, h4⟩, h5, h6⟩ := h
  have hr' := fun r e => (hr r e).2
  exact ⟨⟨blk_kept h1 hg hr', blk_kept h2 hg hr'⟩, ⟨ga, blk_kept h3 hg hr', blk_kept h4 hg hr'⟩, h5.grown hg h5.size (fun k e => by have := (hr k e).1; omega), Nat.le_trans h6 hg.size⟩
set_option maxHeartbeats 1000000 in
set_option maxRecDepth 100000 in
theorem tag_any (key s : ByteArray) (w : World) (hk : key.size = 32) (hs : s.size ≤ 8200) :
    Calls Tryd.prog 68 #[.string key, .string s] w fun r w' => r = .returned (.tuple #[.string (tagB key s), .int .i64 0]) ∧ Below w.heap.size w w' := by
  have HK := Lib.hid hk
  have t1 : ((key.size : Int) != 32) = false := by simp; omega
  have t2 : decide (8200 < (s.size : Int)) = false := by simp; omega
  have hk2 : key.size ≤ 32 := by omega
  have hk3 : (16 : Int) ≤ (key.size : Int) := by omega
  have hcz := clampB_size (key.extract 0 16) (by simp; omega)
  obtain ⟨q, hq⟩ : ∃ q, key.extract 0 16 = q := ⟨_, rfl⟩
  have hq16 : q.size = 16 := by rw [← hq]; simp; omega
  rw [hq] at hcz
  have HQ := Lib.hid (And.intro hq hq16)
  obtain ⟨cc, hcc⟩ : ∃ cc, clampB q = cc := ⟨_, rfl⟩
  rw [hcc] at hcz
  have HCC := Lib.hid hcc
  have HC := Lib.hid hcz
  have hmk := make17
  clear hk hcz hcc hq16
  refine (callsIn_wide (n := 10)).1 ?_
  refine callsIn_of_wp_marks Tryd.func68 rfl trivial ?_ rfl
  simp only [Tryd.ntmps68, List.size_toArray, List.length_cons, List.length_nil, Nat.reduceAdd, Nat.reduceSub, Array.replicate_succ, Array.replicate_zero, List.push_toArray, List.append_toArray, List.nil_append, List.cons_append]
  gi_wp2_with fail
  refine ⟨trivial, ?_⟩
  gi_at_call 84
  refine (callsIn_wide.2 (clamp_b q _ HQ.out.2)).mono ?_
  rintro e w1 ⟨rfl, hb1⟩
  rw [HCC.out]
  trace "A"
  have hs1 := hb1.size
  gi_wp2_with fail
  refine ⟨trivial, ?_⟩
  gi_at_call 85
  refine (callsIn_wide.2 (digits_of cc (some ⟨w1.heap.size, 0, none⟩) 1 0 _ (num_slr (t := 3) (L := [0]) (Blk.new w1 _ _) (by simp) rfl) (by rw [HC.out]; omega))).mono ?_
  rintro e w2 ⟨A2, c2, rfl, hR2, hc21, hc22, hb2⟩
  trace "B"
  have hB2 : Below w.heap.size w w2 := Below.trans (by go_grown) (hb2.mono (by simp; omega))
  have hs2 := hB2.size
  clear hb2
  rw [HC.out] at hR2 hc21 ⊢
  obtain ⟨gr, cur, rfl, hgr, hBr, hcur⟩ := nrow_blk hR2 (by rw [List.length_append, bytesN_len, HC.out]; rfl) (by omega)
  have HBr := Lib.hid hBr
  have HCu := Lib.hid hcur
  clear hR2 hBr hcur
  trace "C"
  gi_wp2_with fail
  refine ⟨trivial, ?_⟩
  gi_at_call 86
  refine (parts_in Fence.wide _ trivial rfl s _).mono ?_
  rintro e w3 ⟨rfl, rfl⟩
  clear hmk
  gi_wp2_with fail
  have hT := tagL_all HK.out HQ.out.1 HCC.out s
  obtain ⟨E, hE⟩ : ∃ E, bytesN cc ++ [0] = E := ⟨_, rfl⟩
  rw [hE] at hT HCu
  have hEg : Digits E := by rw [← hE, ← HCC.out, ← HQ.out.1]; exact keyR_good key HK.out
  have HE := Lib.hid hEg
  have HTL := Lib.hid hT
  clear hE hT hEg
  have hI0 : TagAt w2.heap.size gr c2 cur E w [] ((((w2.alloc (.cells #[.slice (some ⟨gr, 0, none⟩) 17 c2] 39)).alloc (.cells #[.int .i64 0, .int .i64 0, .int .i64 0, .int .i64 0, .int .i64 0, .int .i64 0, .int .i64 0, .int .i64 0, .int .i64 0, .int .i64 0, .int .i64 0, .int .i64 0, .int .i64 0, .int .i64 0, .int .i64 0, .int .i64 0, .int .i64 0] 3)).alloc (.cells #[.slice (some ⟨w2.heap.size + 1, 0, none⟩) 17 17] 39)).alloc (.cells #[.string s] 9)) := by
    refine ⟨⟨(((Blk.new w2 _ _).alloc _).alloc _).alloc _, (((HBr.out.alloc _).alloc _).alloc _).alloc _⟩, ⟨w2.heap.size + 1, (Blk.new_at (by simp) _ _).alloc _, ((Blk.new_at (by simp) _ _).alloc _).alloc _⟩, by go_grown, by simp⟩
  have hbs := Blk.new_at (g := w2.heap.size + 1 + 1 + 1) (w := ((w2.alloc (.cells #[.slice (some ⟨gr, 0, none⟩) 17 c2] 39)).alloc (.cells #[.int .i64 0, .int .i64 0, .int .i64 0, .int .i64 0, .int .i64 0, .int .i64 0, .int .i64 0, .int .i64 0, .int .i64 0, .int .i64 0, .int .i64 0, .int .i64 0, .int .i64 0, .int .i64 0, .int .i64 0, .int .i64 0, .int .i64 0] 3)).alloc (.cells #[.slice (some ⟨w2.heap.size + 1, 0, none⟩) 17 17] 39)) (by simp) 9 #[.string s]
  generalize hW0 : (((w2.alloc (.cells #[.slice (some ⟨gr, 0, none⟩) 17 c2] 39)).alloc (.cells #[.int .i64 0, .int .i64 0, .int .i64 0, .int .i64 0, .int .i64 0, .int .i64 0, .int .i64 0, .int .i64 0, .int .i64 0, .int .i64 0, .int .i64 0, .int .i64 0, .int .i64 0, .int .i64 0, .int .i64 0, .int .i64 0, .int .i64 0] 3)).alloc (.cells #[.slice (some ⟨w2.heap.size + 1, 0, none⟩) 17 17] 39)).alloc (.cells #[.string s] 9) = W0 at hI0 hbs ⊢
  have hsz0 : W0.heap.size = w2.heap.size + 1 + 1 + 1 + 1 := by rw [← hW0]; simp
  clear hW0
  refine wpIn_rangeFunc_ownH rfl (by omega) (gf := 103) (lb := #[.pointer (some ⟨w2.heap.size + 1 + 1 + 1, 0, none⟩)]) rfl trivial (enters_of Tryd.func103 (by kernel_rfl) rfl)
    (encs := fun x : P16 => #[.string x.x]) (Kp := Kept (w2.heap.size + 1 + 1 + 1)) (S := fun xs => xs = partsP s) (Sp := fun pre => pre <+: partsP s) (N := (partsP s).length) (w0 := W0)
    (fun l J Jx W hW hJ hJx hY h0 => parts1_in Fence.wide _ trivial rfl (by omega) l (w2.heap.size + 1 + 1 + 1) s J Jx (Kept (w2.heap.size + 1 + 1 + 1)) (Kept.refl _) (fun _ _ _ => Kept.trans) (fun A B h => h.cell 0) hY W
      ((hW.cell (p := ⟨w2.heap.size + 1 + 1 + 1, 0, none⟩) (by simp; omega)).trans (hbs.cells 0 _ rfl)) (by omega) h0)
    Kept.trans (fun W l o o' hl h1 h2 h3 => Kept.below (belowK_b (n₀ := w2.heap.size + 1 + 1 + 1 + 1) (w := W0) (by omega) W l o o' hl h1 h2 h3) (by omega)) (Below.refl _ _) (fun _ => rfl)
    (fun pre W => TagAt w2.heap.size gr c2 cur E w pre W)
    (fun _ _ _ => False)
    (fun st W W' row hs hg hr => TagAt.own hs (by omega) hg (fun r e => ⟨by have := (hr r e).1; omega, (hr r e).2⟩))
    (fun _ _ _ _ _ h _ _ => h.elim)
    hI0
    (fun x a' W => a' = { tmps := #[.string key, .string s, undef, undef, .string ⟨#[]⟩, .int .i64 0, .string cc, .bool true, .pointer (some ⟨w2.heap.size, 0, none⟩), .pointer (some ⟨w2.heap.size + 1 + 1, 0, none⟩), .string x.x, undef, undef, undef, .string key, .int .i64 key.size, .bool false, .string s, .int .i64 s.size, .bool false, .tuple #[.string cc, .bool true], .string key, .string q, .tuple #[.string cc, .bool true], .string cc, .bool true, .string cc, .slice (some ⟨w1.heap.size, 0, none⟩) 1 1, .slice (some ⟨gr, 0, none⟩) 17 c2, .slice (some ⟨w2.heap.size + 1, 0, none⟩) 17 17, .string s, .func (.func 103) #[] #[.pointer (some ⟨w2.heap.size + 1 + 1 + 1, 0, none⟩)], .string x.x, undef, undef, undef, undef, undef, undef, undef, undef, undef, undef, undef, undef, undef, undef, undef, undef, undef, undef, undef, undef, undef, undef, undef, undef, undef, undef, undef, undef, undef, undef, undef, undef, undef, undef, undef], defers := [] })
    (fun _ _ _ _ _ _ h _ _ => h)
    ?assign ?body ?done ?stop
  case assign =>
    rintro l pre x W K hI hK
    gi_wp2
    exact hK _ _ (KeepsFrom.refl _ _) (Kept.refl _ _) hI rfl
  case body =>
    as_aux_lemma =>
      rintro l pre x a' W hl _ ⟨⟨hA8, hAr⟩, ⟨ga, hA9, hRa⟩, hB, hzW⟩ rfl hlt
      have HA8 := Lib.hid hA8
      have HAr := Lib.hid hAr
      have HA9 := Lib.hid hA9
      have HRa := Lib.hid hRa
      have c8 := hA8.cells 0 _ rfl
      have c9 := hA9.cells 0 _ rfl
      simp only [List.getElem_toArray, List.getElem_cons_zero] at c8 c9
      have hgaW := hRa.lt
      have hgrW := hAr.lt
      clear hA8 hAr hA9 hRa hbs
      gi_wp2_with fail
      refine ⟨trivial, ?_⟩
      gi_at_call 87
      refine (CallsIn.inRound l (callsIn_wide.2 (tstep_good (accR E pre) E (some ⟨ga, 0, none⟩) (some ⟨gr, 0, none⟩) 17 c2 x.x W (num_slr HRa.out hgaW (by rw [(accR_good E pre).1])) (cur_slr HAr.out HCu.out hgrW HE.out.1) (accR_good E pre) HE.out (by omega) (by omega) (by omega) (by have := hc22; unfold maxLen at this; omega) x.ok.2 x.ok.1))).mono ?_
      rintro e W1 ⟨gn, rfl, hRn, hgn, hb1⟩
      have HA91 := Lib.hid (HA9.out.below hb1 HA9.out.lt)
      have HA81 := Lib.hid (HA8.out.below hb1 HA8.out.lt)
      have HAr1 := Lib.hid (HAr.out.below hb1 hgrW)
      have HRn := Lib.hid hRn
      have hB1 := hB.trans (hb1.mono hB.size)
      have HKO := Lib.hid (keepsOthers_below hb1)
      have HKe := Lib.hid (Kept.below (B := w2.heap.size + 1 + 1 + 1) hb1 (by omega))
      have hs1' := hb1.size
      have hg9 := HA9.out.lt
      have hne := HAr.out.ne_ HA9.out (show 3 ≠ 39 by decide)
      have c91 := HA91.out.cells 0 _ rfl
      have f91 := HA91.out.frozen 0
      simp only [List.getElem_toArray, List.getElem_cons_zero] at c91
      clear hb1 hRn c8 c9
      gi_wp2_with fail
      refine ⟨(HKO.out.trans (keepsOthers_setCell _ _ _ _ _ _ _ HA91.out)).from _, HKe.out.trans (Kept.setCell (by omega) _ _), ?_⟩
      refine (show TagAt w2.heap.size gr c2 cur E w (pre ++ [x]) _ from ?_)
      unfold TagAt
      rw [accR_snoc]
      refine ⟨⟨HA81.out.far (show w2.heap.size ≠ w2.heap.size + 1 + 1 by omega) _, HAr1.out.far hne _⟩, ⟨gn, ?_, HRn.out.far (show gn ≠ w2.heap.size + 1 + 1 by omega) _⟩, ?_, ?_⟩
      · have := HA91.out.set_ 0 (.slice (some ⟨gn, 0, none⟩) 17 17)
        simpa using this
      · exact hB1.setCell (show w.heap.size ≤ w2.heap.size + 1 + 1 by omega) _
      · simp [World.setCell]; omega
  case done =>
    as_aux_lemma =>
      rintro D ys W hD rfl ⟨⟨hA8, hAr⟩, ⟨ga, hA9, hRa⟩, hB, hzW⟩ hK
      have HA9 := Lib.hid hA9
      have HRa := Lib.hid hRa
      have HAcc := Lib.hid (accR_good E (partsP s))
      have hlD := (Array.getElem?_eq_some_iff.1 hK).1
      have HKD := Lib.hid hK
      have hmk16 := make16
      clear hA8 hAr hA9 hRa hbs hI0 hK
      gi_wp2_with fail
      have hR0 : Hid (Row vB (W.alloc (.cells (List.replicate 16 (Value.int .u8 0)).toArray 5)) W.heap.size 5 (tagL (accR E (partsP s)) (endR key) 0 ++ List.replicate (16 - 0) 0)) := Lib.hid (Blk.new _ _ _)
      have hga := HRa.out.lt
      gi_loopw [12, 43] (fun sv iv wr => ∃ i o : Nat, i ≤ 16 ∧ iv = .int .i64 i ∧ sv = .int .i64 o ∧ Hid (overS (accR E (partsP s)) (endR key) i = o) ∧ o ≤ 2 ∧ Hid (Row vB wr W.heap.size 5 (tagL (accR E (partsP s)) (endR key) i ++ List.replicate (16 - i) 0)) ∧ Below W.heap.size W wr) (fun _ iv _ => 16 - (intOf iv).toNat)
      case atStart => exact ⟨0, 0, by omega, rfl, rfl, rfl, by omega, hR0, by go_grown⟩
      case round =>
        clear hR0
        obtain ⟨i, o, hi, rfl, rfl, HO, ho, HR, hBr⟩ := hrel
        by_cases hlt : i < 16
        · have hx := getD_at (L := accR E (partsP s)) (k := i) (by rw [HAcc.out.1]; omega)
          have hx1 := HAcc.out.2.1 _ (List.mem_of_getElem? hx)
          obtain ⟨j, hj⟩ : ∃ j, 16 + i = j := ⟨_, rfl⟩
          have hjk : j < key.size := by have := HK.out; omega
          have hy : (endR key).getD i 0 = key[j].toNat := by
            unfold endR
            rw [List.getD_eq_getElem?_getD, List.getElem?_drop, hj, bytesN_get key j hjk]; rfl
          have hy1 : key[j].toNat < 256 := key[j].toNat_lt
          have hstep := tagL_step (accR E (partsP s)) (endR key) i hlt
          have hover : overS (accR E (partsP s)) (endR key) (i + 1) = (o + ((accR E (partsP s)).getD i 0 + key[j].toNat)) / 256 := by rw [overS, HO.out, hy]
          rw [HO.out, hy] at hstep
          have c9 := (HA9.out.below hBr HA9.out.lt).cells 0 _ rfl
          simp only [List.getElem_toArray, List.getElem_cons_zero] at c9
          have cx := (HRa.out.below hBr hga).get hx
          obtain ⟨z, hz⟩ : ∃ z, (tagL (accR E (partsP s)) (endR key) i ++ List.replicate (16 - i) 0)[i]? = some z := ⟨_, List.getElem?_eq_getElem (by rw [List.length_append, tagL_len, List.length_replicate]; omega)⟩
          have cz := HR.out.get hz
          have fz := HR.out.free i
          simp only [vN, vB] at cx cz
          generalize (accR E (partsP s)).getD i 0 = x at hx hx1 hstep hover cx
          have i0 : (0 : Int) ≤ i := by omega
          have i1 : (i : Int) < 16 := by omega
          have i17 : (i : Int) < 17 := by omega
          have j0 : (0 : Int) ≤ j := by omega
          have jk : (j : Int) < (key.size : Int) := by omega
          have ej : (16 : Int) + (i : Int) = (j : Int) := by omega
          have wj : IntKind.i64.wrap (j : Int) = (j : Int) := wrap_i64_nat _ (by omega)
          have hgl := HR.out.lt
          have HST := Lib.hid (And.intro hstep hover)
          clear hx hy hz hstep hover hj
          as_aux_lemma =>
            gi_wp2_with fail
            gi_region
            all_goals
              gi_wp2_with fail
              go_roundw
              case rel =>
                refine ⟨i + 1, (o + (x + key[j].toNat)) / 256, by omega, by go_num, by go_num, Lib.hid HST.out.2, by omega, Lib.hid ?_, by go_grown⟩
                rw [u8_of, ← HST.out.1]
                exact HR.out.set_ i _
              case measure => simp [intOf]; omega
        · obtain rfl : i = 16 := by omega
          have hblk : Blk wr W.heap.size 5 ((tagL (accR E (partsP s)) (endR key) 16).map vB).toArray := by
            have := HR.out
            rw [Nat.sub_self, List.replicate_zero, List.append_nil] at this
            exact this
          have hcv := run_blk (P := Tryd.prog) (L := tagL (accR E (partsP s)) (endR key) 16) (n := 16) (c := 16) 54 9 5 Tryd.underlying54 Tryd.underlying5 Tryd.underlying9 (tagL_len _ _ _) hblk
          have hK1 := (hBr.block D hlD).trans HKD.out
          have hBw := hB.trans (hBr.mono hB.size)
          clear hblk HO HR
          gi_wp2_with fail
          refine ⟨by simp, .inl ⟨_, _, rfl, run_takeDeferred hK1, ?_⟩⟩
          exact ⟨_, results_tmp2 rfl _ _ _, by simp; rw [HTL.out], hBw.trans (belowK_b (n₀ := w.heap.size) (w := W0) (by omega) wr D _ _ hD hK1 rfl rfl)⟩
  case stop =>
    rintro D cd pre W hD hpre h hK0
    exact h.elim
end Go.Proofs.YtbgohcedakpnbaaDoor
