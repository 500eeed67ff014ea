/- tree: rows to be read; rowsOf, root, told. -/
import Derived.Test.YtkaaicmadknjcaaDoorTreA
import Derived.Test.YtkaaicmadknjcaaDoorTreP
import Derived.BigQuiet
set_option linter.unusedVariables false
set_option linter.unusedSimpArgs false
namespace Go.Proofs.YtkaaicmadknjcaaDoor
open Go.RowKit
/-- rows of texts, to be read -/
def RRows (w : World) (B : Nat) (A : Option Addr) (n : Nat) (LL : List (List ByteArray)) : Prop :=
  ∃ X : List Sl, SlR encSl 1 w B A n X ∧ X.length = LL.length ∧ ∀ (i : Nat) s L, X[i]? = some s → LL[i]? = some L → SlR encS 1 w B s.A s.n L
section
variable {w w' : World} {B B' n base g : Nat} {A : Option Addr} {T : Value} {LL : List (List ByteArray)} {L : List ByteArray}
theorem RRows.below (h : RRows w B A n LL) (hb : Below B w w') : RRows w' B A n LL := by
  obtain ⟨X, h1, h2, h3⟩ := h
  exact ⟨X, h1.below hb, h2, fun i s L a b => (h3 i s L a b).below hb⟩
theorem RRows.more (h : RRows w B A n LL) (hB : B ≤ B') : RRows w B' A n LL := by
  obtain ⟨X, h1, h2, h3⟩ := h
  exact ⟨X, h1.more hB, h2, fun i s L a b => (h3 i s L a b).more hB⟩
theorem RRows.len (h : RRows w B A n LL) : LL.length = n := by
  obtain ⟨X, h1, h2, _⟩ := h
  rw [← h2]; exact h1.1
theorem RRows.at_ (h : RRows w B A n LL) {i : Nat} (hL : LL[i]? = some L) : ∃ (b off : Nat) (s : Sl), A = some ⟨b, off, none⟩ ∧ b < B ∧ w.cell? ⟨b, off + i, none⟩ = some (.slice s.A s.n s.c) ∧ SlR encS 1 w B s.A s.n L := by
  obtain ⟨X, h1, h2, h3⟩ := h
  have hi : i < X.length := by rw [h2]; exact (List.getElem?_eq_some_iff.1 hL).1
  rcases h1.2 with h0 | ⟨b, off, rfl, hb, hC⟩
  · have := h1.1; omega
  · have hs : X[i]? = some X[i] := List.getElem?_eq_getElem hi
    exact ⟨b, off, X[i], rfl, hb, hC.sl hs, h3 i _ _ hs hL⟩
theorem TR.reads (h : TR w base g T LL) : ∃ A c, Blk w g 111 #[T, .slice A LL.length c] ∧ RRows w w.heap.size A LL.length LL ∧ base ≤ g ∧ LL.length ≤ c ∧ c ≤ maxLen := by
  obtain ⟨v, X, h1, h2, h3, h4, h5⟩ := h
  obtain ⟨A, c, rfl, hc1, hc2⟩ := orow_form h3
  rw [h4] at h1 h3 hc1
  refine ⟨A, c, h1, ⟨X, slrow_slr h3 h4, h4, fun i s L a b => ?_⟩, h2, hc1, hc2⟩
  obtain ⟨q, qn⟩ := h5 i s L a b
  exact srow_slr q qn.symm
end
/-- the row that was made last -/
theorem top_r (w : World) (g : Nat) (T : Value) (A : Option Addr) (m c : Nat) (LL : List (List ByteArray)) (L : List ByteArray) (hk : Blk w g 111 #[T, .slice A (m + 1) c]) (hR : RRows w w.heap.size A (m + 1) LL) (hL : LL[m]? = some L) (hm : m ≤ 1000) :
    Calls Tryd.prog 139 #[.pointer (some ⟨g, 0, none⟩)] w fun e w' => (∃ A' c', e = .returned (.slice A' L.length c') ∧ SlR encS 1 w' w.heap.size A' L.length L) ∧ Below w.heap.size w w' := by
  obtain ⟨X, h1, h2, h3⟩ := hR
  have hi : m < X.length := by rw [h2]; exact (List.getElem?_eq_some_iff.1 hL).1
  rcases h1.2 with h0 | ⟨b, off, rfl, hb, hC⟩
  · omega
  have hs : X[m]? = some X[m] := List.getElem?_eq_getElem hi
  have hq := h3 m _ _ hs hL
  refine (top_any w g b off m c T X X[m] hk hC hs hm).mono ?_
  rintro e w' ⟨rfl, hB⟩
  have hn : X[m].n = L.length := hq.1.symm
  rw [hn] at hq ⊢
  exact ⟨⟨_, _, rfl, hq.below hB⟩, hB⟩
/-- what rowsOf tells, and leaves -/
def RowsPost (l : List ByteArray) (T : Value) (h : Nat) (w : World) (e : Ending) (w' : World) : Prop :=
  Below w.heap.size w w' ∧ ∃ A c, e = .returned (.agg #[T, .slice A (h + 1) c]) ∧ h + 1 ≤ c ∧ c ≤ maxLen ∧ Hid (RRows w' w'.heap.size A (h + 1) (levs l h))
theorem pow_le_two {k n : Nat} (h : k ≤ n) : 2 ^ k ≤ 2 ^ n := Nat.pow_le_pow_right (by omega) h
theorem leaf_step {l : List ByteArray} {k : Nat} {s : ByteArray} (hs : l[k]? = some s) : (l.map leafS).take k ++ [leafS s] = (l.map leafS).take (k + 1) := by
  have : (l.map leafS)[k]? = some (leafS s) := by simp [hs]
  obtain ⟨hlt, he⟩ := List.getElem?_eq_some_iff.1 this
  rw [List.take_succ_eq_append_getElem hlt, he]
theorem orow_low {α : Type} {e : TypeId} {enc : α → List Value} {sz : Nat} {w : World} {base g : Nat} {v : Value} {L : List α} (h : ORow e enc sz w base v L) (hg : g < base) (o : Nat) (u : Value) : ORow e enc sz (w.setCell ⟨g, o, none⟩ u) base v L :=
  own_far h (fun e => by have := (orow_lt h e).1; omega) o u
theorem TR.low {w : World} {base g k : Nat} {T : Value} {LL : List (List ByteArray)} (h : TR w base g T LL) (hk : k < base) (o : Nat) (u : Value) : TR (w.setCell ⟨k, o, none⟩ u) base g T LL := by
  obtain ⟨v, X, h1, h2, h3, h4, h5⟩ := h
  exact ⟨v, X, h1.far (by simp; omega) u, h2, orow_low h3 hk o u, h4, fun i s L a b => ⟨orow_low (h5 i s L a b).1 hk o u, (h5 i s L a b).2⟩⟩
/-- a new row that is full -/
theorem orow_new {α : Type} {e : TypeId} {enc : α → List Value} {sz : Nat} {w : World} {base g : Nat} {cs : Array Value} {L : List α} (he : ∀ x, (enc x).length = sz) (h : Blk w g e cs) (hb : base ≤ g) (hc : cs.toList = flat enc L) (hL : L.length ≤ maxLen) :
    ORow e enc sz w base (.slice (some ⟨g, 0, none⟩) L.length L.length) L := by
  have hl : cs.toList.length = L.length * sz := by rw [hc, flat_length he]
  refine ⟨flat_length he, .inr ⟨g, L.length, cs, rfl, hb, h, Nat.le_refl _, hL, by simpa using hl, ?_⟩⟩
  rw [hc, List.take_of_length_le (by rw [flat_length he]; exact Nat.le_refl _)]
/-- the first row, as rows -/
theorem tr_first {w : World} {base : Nat} {A : Option Addr} {n c : Nat} {L : List ByteArray} (T : Value) (h : SRow w base (.slice A n c) L) (hn : L.length = n) (hb : base ≤ w.heap.size) :
    TR ((w.alloc (.cells #[.slice A n c] 54)).alloc (.cells #[T, .slice (some ⟨w.heap.size, 0, none⟩) 1 1] 111)) base (w.heap.size + 1) T [L] := by
  refine ⟨.slice (some ⟨w.heap.size, 0, none⟩) 1 1, [⟨A, n, c⟩], Blk.new_at (by simp) _ _, by omega, ?_, rfl, ?_⟩
  · exact orow_new (L := [(⟨A, n, c⟩ : Sl)]) encSl_len ((Blk.new w _ _).alloc _) hb rfl (by simp [maxLen])
  · intro i s L' h1 h2
    have hi : i = 0 := by have := (List.getElem?_eq_some_iff.1 h1).1; simp at this; omega
    subst hi
    simp only [List.getElem?_cons_zero, Option.some.injEq] at h1 h2
    subst h1 h2
    exact ⟨orow_alloc (orow_alloc h _) _, hn.symm⟩
set_option maxRecDepth 100000 in
set_option maxHeartbeats 1000000 in
theorem rowsOf_any (l : List ByteArray) (A : Option Addr) (n c h : Nat) (w : World) (hG : Rounds w) (hL : SlR encS 1 w w.heap.size A n l) (hn : n = 2 ^ h) (hh : h ≤ 10) (hs : ∀ s ∈ l, s.size ≤ 140737488351232) :
    Calls Tryd.prog 108 #[.slice A n c] w (RowsPost l (.slice A n c) h w) := by
  have h1 : 1 ≤ n := by rw [hn]; exact Nat.one_le_two_pow
  have h2 : n ≤ 1024 := by rw [hn]; exact Nat.le_trans (Nat.pow_le_pow_right (by omega) hh) (by decide)
  obtain ⟨hl, hA⟩ := hL
  obtain ⟨b, off, rfl, hb, hC⟩ := hA.resolve_left (by omega)
  have HC : Hid (∀ W, Below w.heap.size w W → SlC encS 1 W b off l) := Lib.hid (fun W hB => hC.below hB hb)
  have HG := Lib.hid hG
  have Hs := Lib.hid hs
  have HLn := Lib.hid hl
  have HN := Lib.hid hn
  have HM : Hid ((l.map leafS).length = n) := Lib.hid (by simpa using hl)
  have hmk := make_strs n (by omega)
  clear hC hG hs hl hn hA
  go_enter Tryd.func108, Tryd.ntmps108
  go_wp2
  have HO := Lib.hid (srow_made (w.alloc (.cells #[.slice none 0 0, .slice none 0 0] 111)) n (by omega))
  go_loopw [3, 12] (fun v i wr => ∃ (k : Nat) (A2 : Option Addr) (c2 : Nat), k ≤ n ∧ i = .int .i64 k ∧ v = .slice A2 k c2 ∧ Hid (SRow wr (w.heap.size + 1) (.slice A2 k c2) ((l.map leafS).take k)) ∧
      Below (w.heap.size + 1) (w.alloc (.cells #[.slice none 0 0, .slice none 0 0] 111)) wr) (fun _ i _ => n - (intOf i).toNat)
  case atStart => exact ⟨0, _, _, Nat.zero_le _, rfl, rfl, by simpa using HO, by go_grown⟩
  case round =>
    obtain ⟨k, A2, c2, hk, rfl, rfl, HR, hB⟩ := hrel
    have hb1 : Below w.heap.size w wr := Below.trans (by go_grown) (hB.mono (by omega))
    have hzr := hB.size
    rw [World.size_alloc] at hzr
    by_cases hlt : k < n
    · obtain ⟨s, hsk⟩ : ∃ s, l[k]? = some s := ⟨l[k]'(by rw [HLn.out]; exact hlt), List.getElem?_eq_getElem _⟩
      have c0 := (HC.out _ hb1).str hsk
      have HEq := Lib.hid (leaf_step hsk)
      have HTk : Hid (((l.map leafS).take k).length = k) := Lib.hid (by rw [List.length_take, HM.out]; omega)
      have hsz := Hs.out s (List.mem_of_getElem? hsk)
      have HLf := Lib.hid (leaf_any s wr (rounds_of HG.out hb1) hsz)
      clear hsk
      go_wp2_with fail
      refine HLf.out.mono ?_
      rintro e w1 ⟨rfl, hb2⟩
      have hz1 := hb2.size
      have hB1 := hB.trans (hb2.mono hzr)
      have HR1 := Lib.hid (orow_below HR.out hb2 (Nat.le_refl _))
      clear HLf c0 HR hb2
      go_wp2_with (at_builtin; refine wpList_append_str rfl (.tmp 16) (.tmp 19) rfl rfl (orow_alloc HR1.out _) w1.heap.size (leafS s) rfl (Blk.new _ _ _) k HTk.out _ HEq.out (by omega) (by simp; omega) ?_; intro A3 c3 w3 HR3 hg3 hb3)
      clear hg3
      go_roundw
      case rel => exact ⟨k + 1, A3, c3, by omega, by go_num, rfl, HR3, Below.trans hB1 (Below.trans (by go_grown) hb3)⟩
      case measure => simp [intOf]; omega
    · obtain rfl : k = n := by omega
      have hR := HR.out
      rw [List.take_of_length_le (by rw [HM.out]; exact Nat.le_refl _)] at hR
      have HR' : Hid (SRow wr (w.heap.size + 1) (.slice A2 k c2) (l.map leafS)) := Lib.hid hR
      clear hR HR
      have HT0 : Hid (TR ((wr.alloc (.cells #[.slice A2 k c2] 54)).alloc (.cells #[.slice (some ⟨b, off, none⟩) k c, .slice (some ⟨wr.heap.size, 0, none⟩) 1 1] 111)) (w.heap.size + 1) (wr.heap.size + 1) (.slice (some ⟨b, off, none⟩) k c) (levs l 0)) := Lib.hid (by rw [levs_zero]; exact tr_first _ HR'.out HM.out hzr)
      have HB0 : Hid (Below (w.heap.size + 1) (w.alloc (.cells #[.slice none 0 0, .slice none 0 0] 111)) ((wr.alloc (.cells #[.slice A2 k c2] 54)).alloc (.cells #[.slice (some ⟨b, off, none⟩) k c, .slice (some ⟨wr.heap.size, 0, none⟩) 1 1] 111))) := Lib.hid (Below.trans hB (by go_grown))
      go_wp2_with fail
      generalize wr.heap.size + 1 = g at *
      clear HO hmk HR' hB hb1 hzr
      go_loopg [26] h (fun gk p wx => ∃ j, Hid (j + gk = h) ∧ Hid (TR wx (w.heap.size + 1) g (.slice (some ⟨b, off, none⟩) k c) (levs l j)) ∧ Hid (Below (w.heap.size + 1) (w.alloc (.cells #[.slice none 0 0, .slice none 0 0] 111)) wx))
      case atStart => exact ⟨0, Lib.hid (by omega), HT0, HB0⟩
      case round =>
        obtain ⟨j, HJ, HT, HB⟩ := hrel
        obtain ⟨A5, c5, hk5, hr5, hg5, hc51, hc52⟩ := HT.out.reads
        rw [levs_len] at hc51
        have HC5 := Lib.hid (And.intro hc51 hc52)
        clear hc51 hc52
        have HK5 := Lib.hid hk5
        have HR5 := Lib.hid hr5
        have hz5 := HB.out.size
        rw [World.size_alloc] at hz5
        clear hk5 hr5 hg5
        have HB5 : Hid (Below w.heap.size w wr) := Lib.hid (Below.trans (by go_grown) (HB.out.mono (by omega)))
        rw [levs_len] at HK5 HR5
        obtain ⟨q, hq⟩ : ∃ q, (lev l j).length = q := ⟨_, rfl⟩
        have HQ : Hid (q = 2 ^ (h - j)) := Lib.hid (by rw [← hq]; exact lev_pow (by rw [HLn.out, HN.out]) (by have := HJ.out; omega))
        have HQl := Lib.hid hq
        have hq2 : q ≤ 1024 := by rw [HQ.out]; exact Nat.le_trans (pow_le_two (by omega : h - j ≤ 10)) (by decide)
        have hjh : j ≤ h := by have := HJ.out; omega
        clear hq
        go_wp2_with fail
        refine (top_r wr g _ A5 j c5 (levs l j) (lev l j) HK5.out HR5.out (levs_at l (Nat.le_refl j)) (by omega)).mono ?_
        rintro e w6 ⟨⟨A6, c6, rfl, hS6⟩, hb6⟩
        have hz6 := hb6.size
        rw [HQl.out]
        have HT6 := Lib.hid (HT.out.below hb6 (Nat.le_refl _))
        have HB6 := Lib.hid (HB.out.trans (hb6.mono hz5))
        clear hS6
        by_cases hlt2 : 1 < q
        · have HJ2 : Hid (j < h) := Lib.hid (by
            rcases Nat.lt_or_ge j h with a | a
            · exact a
            · have e : h - j = 0 := by omega
              have := HQ.out
              rw [e, Nat.pow_zero] at this
              omega)
          have HT6' : Hid (TR w6 (w.heap.size + 1) g (.slice (some ⟨b, off, none⟩) k c) ((List.range j).map (lev l) ++ [lev l j])) := Lib.hid (by rw [levs_front]; exact HT6.out)
          have HG6 := Lib.hid (rounds_of HG.out (HB5.out.trans (hb6.mono (by omega))))
          have HRise := Lib.hid (rise_any w6 (w.heap.size + 1) g _ ((List.range j).map (lev l)) (lev l j) HG6.out (by omega) HT6'.out (by omega) (by simp; omega) (by rw [HQl.out]; omega) (by rw [HQl.out]; omega) (fun s hs => Nat.le_trans (lev_small s hs) (by omega)))
          go_wp2_with fail
          refine HRise.out.mono ?_
          rintro e w7 ⟨rfl, hT7, hb7⟩
          have HT7 : Hid (TR w7 (w.heap.size + 1) g (.slice (some ⟨b, off, none⟩) k c) (levs l (j + 1))) := Lib.hid (by
            rw [levs_front] at hT7
            rw [← levs_succ]
            exact hT7)
          have HB7 := Lib.hid (HB6.out.trans hb7)
          clear hT7 hb7 HRise
          go_wp2_with fail
          go_roundg (gk - 1)
          case measure => have := HJ.out; have := HJ2.out; omega
          case rel => exact ⟨j + 1, Lib.hid (by have := HJ.out; have := HJ2.out; omega), HT7, HB7⟩
        · have HJ2 : Hid (j = h) := Lib.hid (by
            rcases Nat.lt_or_ge j h with a | a
            · have : 2 ^ 1 ≤ 2 ^ (h - j) := pow_le_two (by omega)
              rw [← HQ.out] at this
              omega
            · omega)
          have hjj := HJ2.out
          subst hjj
          have hk6 := HK5.out.below hb6 HK5.out.lt
          have hblk := (Blk.new w 111 #[.slice none 0 0, .slice none 0 0]).below HB6.out (by omega)
          have k0 := hk6.cells 0 _ rfl
          have k1 := hk6.cells 1 _ rfl
          have f0 := hblk.frozen 0
          have f1 := hblk.frozen 1
          have b0 := hblk.cells 0 _ rfl
          have b1 := hblk.cells 1 _ rfl
          simp only [List.getElem_toArray, List.getElem_cons_zero, List.getElem_cons_succ] at k0 k1 b0 b1
          have HBk : Hid (Blk ((w6.setCell ⟨w.heap.size, 0, none⟩ (.slice (some ⟨b, off, none⟩) k c)).setCell ⟨w.heap.size, 1, none⟩ (.slice A5 (j + 1) c5)) w.heap.size 111 #[.slice (some ⟨b, off, none⟩) k c, .slice A5 (j + 1) c5]) := Lib.hid (by simpa using (hblk.set_ 0 (.slice (some ⟨b, off, none⟩) k c)).set_ 1 (.slice A5 (j + 1) c5))
          have HK6 := Lib.hid hk6
          clear hk6 hblk
          go_wp2_with (with_reducible refine end_at ?_)
          have r0 := HBk.out.cells 0 _ rfl
          have r1 := HBk.out.cells 1 _ rfl
          simp only [List.getElem_toArray, List.getElem_cons_zero, List.getElem_cons_succ] at r0 r1
          have HT8 := (HT6.out.low (k := w.heap.size) (by omega) 0 (.slice (some ⟨b, off, none⟩) k c)).low (k := w.heap.size) (by omega) 1 (.slice A5 (j + 1) c5)
          obtain ⟨A8, c8, hk8, hr8, _, _, _⟩ := HT8.reads
          have hk9 := (HK6.out.far (p := ⟨w.heap.size, 0, none⟩) (by have := HT6.out; obtain ⟨_, _, _, h, _⟩ := this; simp; omega) (.slice (some ⟨b, off, none⟩) k c)).far (p := ⟨w.heap.size, 1, none⟩) (by have := HT6.out; obtain ⟨_, _, _, h, _⟩ := this; simp; omega) (.slice A5 (j + 1) c5)
          have e8 : A8 = A5 := by
            have a1 := hk8.cells 1 _ rfl
            have a2 := hk9.cells 1 _ rfl
            rw [a1] at a2
            simp only [List.getElem_toArray, List.getElem_cons_zero, List.getElem_cons_succ, Option.some.injEq, Value.slice.injEq] at a2
            exact a2.1
          rw [e8, levs_len] at hr8
          refine end_ret (v := .agg #[.slice (some ⟨b, off, none⟩) k c, .slice A5 (j + 1) c5]) (by simp [results, Tryd.results108, go_sem, r0, r1]; try rfl) rfl ⟨?_, A5, c5, rfl, HC5.out.1, HC5.out.2, Lib.hid hr8⟩
          exact ((HB6.out.mono (by omega : w.heap.size ≤ w.heap.size + 1) |> Below.trans (by go_grown)).setCell (by simp) _).setCell (by simp) _
end Go.Proofs.YtkaaicmadknjcaaDoor
/- tree: root, told, Root, Path. -/
namespace Go.Proofs.YtkaaicmadknjcaaDoor
open Go.RowKit
/-- block g holds the rows of l, of height h, whose texts are the slice T -/
def Tree (w : World) (g : Nat) (T : Value) (l : List ByteArray) (h : Nat) : Prop := ∃ A c, Blk w g 111 #[T, .slice A (h + 1) c] ∧ RRows w w.heap.size A (h + 1) (levs l h) ∧ h + 1 ≤ c ∧ c ≤ maxLen
theorem Tree.below {w w' : World} {g h : Nat} {T : Value} {l : List ByteArray} (ht : Tree w g T l h) (hb : Below w.heap.size w w') : Tree w' g T l h := by
  obtain ⟨A, c, hk, hr, hc⟩ := ht
  exact ⟨A, c, hk.below hb hk.lt, (hr.below hb).more hb.size, hc⟩
/-- what rowsOf tells, laid into a new block -/
theorem tree_new {w : World} {A : Option Addr} {c h : Nat} {T : Value} {l : List ByteArray} (hr : RRows w w.heap.size A (h + 1) (levs l h)) (h1 : h + 1 ≤ c) (h2 : c ≤ maxLen) : Tree (w.alloc (.cells #[T, .slice A (h + 1) c] 111)) w.heap.size T l h :=
  ⟨A, c, Blk.new w _ _, (hr.below (by go_grown)).more (by simp), h1, h2⟩
theorem root_any (w : World) (g h : Nat) (T : Value) (l : List ByteArray) (ht : Tree w g T l h) (hl : l.length = 2 ^ h) (hh : h ≤ 10) :
    Calls Tryd.prog 109 #[.pointer (some ⟨g, 0, none⟩)] w fun e w' => e = .returned (.string (atB (lev l h) 0)) ∧ Below w.heap.size w w' := by
  obtain ⟨A, c, hk, hr, _, _⟩ := ht
  have HT := Lib.hid (top_r w g T A h c (levs l h) (lev l h) hk hr (levs_at l (Nat.le_refl h)) (by omega))
  have HL : Hid ((lev l h).length = 1) := Lib.hid (by rw [lev_pow hl (Nat.le_refl h)]; simp)
  clear hk hr
  go_enter Tryd.func109, Tryd.ntmps109
  go_wp2_with fail
  refine HT.out.mono ?_
  rintro e w1 ⟨⟨A', c', rfl, hS⟩, hb⟩
  rw [HL.out] at hS ⊢
  obtain ⟨b, off, rfl, hbl, hC⟩ := hS.2.resolve_left (by omega)
  have c0 := hC.str (k := 0) (at_of_lt (by rw [HL.out]; omega))
  rw [Nat.add_zero] at c0
  clear hS hC
  go_wp2_with fail
  go_ret
  exact ⟨rfl, hb⟩
theorem told_any (w : World) (g h k j : Nat) (At : Option Addr) (nt ct : Nat) (l : List ByteArray) (hL : SlR encS 1 w w.heap.size At nt l) (ht : Tree w g (.slice At nt ct) l h) (hl : l.length = 2 ^ h) (hh : h ≤ 10) (hk : k ≤ h) (hj : j < 2 ^ (h - k)) (hs : ∀ s ∈ l, s.size ≤ 140737488351232) :
    Calls Tryd.prog 119 #[.pointer (some ⟨g, 0, none⟩), .int .i64 k, .int .i64 j] w fun e w' => e = .returned (.string (toldT l k j)) ∧ Below w.heap.size w w' := by
  have h24 : 2 ^ (h - k) ≤ 1024 := Nat.le_trans (pow_le_two (by omega : h - k ≤ 10)) (by decide)
  cases k with
  | zero =>
    rw [Nat.sub_zero] at hj h24
    obtain ⟨A, c, hkk, hr, _, _⟩ := ht
    obtain ⟨b, off, rfl, hb, hC⟩ := hL.2.resolve_left (by have := hL.1; omega)
    have hn : nt = 2 ^ h := by rw [← hL.1, hl]
    have k0 := hkk.cells 0 _ rfl
    simp only [List.getElem_toArray, List.getElem_cons_zero, List.getElem_cons_succ] at k0
    have hg := at_of_lt (L := l) (k := j) (by omega)
    have c0 := hC.str hg
    have HE : Hid (toldT l 0 j = leafT (atB l j)) := Lib.hid rfl
    have hsz := hs _ (List.mem_of_getElem? hg)
    rw [← hn] at hj h24
    have HLf := Lib.hid (leafText_any (atB l j) w hsz)
    rw [HE.out]
    generalize atB l j = x at c0 hsz HLf HE ⊢
    have i0 : (0 : Int) ≤ (j : Int) := by omega
    have i1 : (j : Int) < (nt : Int) := by omega
    clear hkk hr hC hL hs hl hn hg HE
    go_enter Tryd.func119, Tryd.ntmps119
    go_wp2_with fail
    refine HLf.out.mono ?_
    rintro e w1 ⟨rfl, rfl⟩
    go_wp2_with fail
    go_ret
    exact ⟨rfl, Below.refl _ _⟩
  | succ k =>
    have hp : 2 ^ (h - k) = 2 ^ (h - (k + 1)) * 2 := by rw [← Nat.pow_succ]; congr 1; omega
    obtain ⟨A, c, hkk, hr, _, _⟩ := ht
    have k1 := hkk.cells 1 _ rfl
    simp only [List.getElem_toArray, List.getElem_cons_zero, List.getElem_cons_succ] at k1
    obtain ⟨b, off, s, rfl, hb, hc, hq⟩ := hr.at_ (levs_at l (by omega : k ≤ h))
    obtain ⟨sA, sn, sc⟩ := s
    simp only at hc hq
    have hq1 : (lev l k).length = sn := hq.1
    have hn : sn = 2 ^ (h - k) := by rw [← hq1, lev_pow hl (by omega)]
    obtain ⟨b2, off2, rfl, hb2, hC⟩ := hq.2.resolve_left (by omega)
    have g0 := at_of_lt (L := lev l k) (k := 2 * j) (by omega)
    have g1 := at_of_lt (L := lev l k) (k := 2 * j + 1) (by omega)
    have c0 := hC.str g0
    have c1 := hC.str g1
    have s0 := lev_small _ (List.mem_of_getElem? g0)
    have s1 := lev_small _ (List.mem_of_getElem? g1)
    have HE : Hid (toldT l (k + 1) j = nodeT (atB (lev l k) (2 * j)) (atB (lev l k) (2 * j + 1))) := Lib.hid rfl
    rw [HE.out]
    generalize atB (lev l k) (2 * j) = x at c0 s0 HE ⊢
    generalize atB (lev l k) (2 * j + 1) = y at c1 s1 HE ⊢
    have i0 : (0 : Int) ≤ 2 * (j : Int) := by omega
    have i1 : 2 * (j : Int) < (sn : Int) := by omega
    have i2 : (0 : Int) ≤ 2 * (j : Int) + 1 := by omega
    have i3 : 2 * (j : Int) + 1 < (sn : Int) := by omega
    have e1 : IntKind.i64.wrap (2 * (j : Int)) = 2 * (j : Int) := IntWalk.i64_in _ (by omega)
    have e2 : IntKind.i64.wrap (2 * (j : Int) + 1) = 2 * (j : Int) + 1 := IntWalk.i64_in _ (by omega)
    have e3 : IntKind.i64.wrap (((k + 1 : Nat) : Int) - 1) = (k : Int) := by rw [show ((k + 1 : Nat) : Int) - 1 = (k : Int) by omega]; exact wrap_i64_nat k (by omega)
    have e4 : ((k + 1 : Nat) : Int) - 1 = (k : Int) := by omega
    have e5 : (2 * (j : Int)).toNat = 2 * j := by omega
    have e6 : (2 * (j : Int) + 1).toNat = 2 * j + 1 := by omega
    have k00 : (0 : Int) ≤ (k : Int) := by omega
    have k01 : (k : Int) < ((h + 1 : Nat) : Int) := by omega
    have t0 : (((k + 1 : Nat) : Int) == 0) = false := by simp; omega
    clear hkk hr hC hL hs hl hn g0 g1 HE hq hq1
    go_enter Tryd.func119, Tryd.ntmps119
    go_wp2
    go_quiet (exact Calls.quiet_of_same ((nodeText_any x y _ (by omega) (by omega)).mono fun e w' h => ⟨h.1, h.2.symm⟩))
    go_wp2
    go_ret
    exact ⟨rfl, below_drewN (Below.refl _ _) _⟩
theorem troot_any (l : List ByteArray) (A : Option Addr) (n c : Nat) (w : World) (hG : Rounds w) (hL : SlR encS 1 w w.heap.size A n l) (hn : n ≤ 140737488351232) (hs : ∀ s ∈ l, s.size ≤ 140737488351232) :
    Calls Tryd.prog 60 #[.slice A n c] w fun e w' => e = .returned (.tuple #[.string (rootV l), .int .i64 (rootE l)]) ∧ Below w.heap.size w w' := by
  have hl := hL.1
  have HM := Lib.hid (mayroot_any n w hn)
  cases hm : mayB n
  · have hv : rootV l = ByteArray.empty := by simp [rootV, hl, hm]
    have he : rootE l = 1 := by simp [rootE, hl, hm]
    rw [hv, he]
    rw [hm] at HM
    clear hL hs hG hl hv he hm
    go_enter Tryd.func60, Tryd.ntmps60
    go_wp2_with fail
    refine HM.out.mono ?_
    rintro e w1 ⟨rfl, rfl⟩
    go_wp2_with fail
    go_ret2
    exact ⟨rfl, Below.refl _ _⟩
  · obtain ⟨hp, hh⟩ := hgt_may hm
    have hv : rootV l = atB (lev l (hgt n)) 0 := by simp [rootV, rootB, hl, hm]
    have he : rootE l = 0 := by simp [rootE, hl, hm]
    rw [hv, he]
    rw [hm] at HM
    have HP := Lib.hid hp
    have HL := Lib.hid hl
    have HR := Lib.hid (rowsOf_any l A n c (hgt n) w hG hL hp hh hs)
    generalize hgt n = h at *
    clear hL hs hG hl hv he hm hp
    go_enter Tryd.func60, Tryd.ntmps60
    go_wp2_with fail
    refine HM.out.mono ?_
    rintro e w1 ⟨rfl, rfl⟩
    go_wp2_with fail
    refine HR.out.mono ?_
    rintro e w2 ⟨hb2, A2, c2, rfl, h21, h22, HR2⟩
    have HT := Lib.hid (tree_new (T := .slice A n c) HR2.out h21 h22)
    have HRt := Lib.hid (root_any _ _ h _ l HT.out (by rw [HL.out, HP.out]) hh)
    go_wp2_with fail
    refine HRt.out.mono ?_
    rintro e w3 ⟨rfl, hb3⟩
    have hz := hb2.size
    clear HM HR HR2 HT HRt
    go_wp2_with fail
    go_ret2
    exact ⟨rfl, Below.trans hb2 (Below.trans (by go_grown) (hb3.mono (by simp; omega)))⟩
/-- what Path tells, and leaves -/
def PathPost (l : List ByteArray) (i : Int) (w : World) (e : Ending) (w' : World) : Prop :=
  Below w.heap.size w w' ∧ ∃ A c, e = .returned (.tuple #[.slice A (pathV l i).length c, .int .i64 (pathE l i)]) ∧ Hid (SRow w' w.heap.size (.slice A (pathV l i).length c) (pathV l i))
theorem path_no {l : List ByteArray} {i : Int} {w : World} (h : pathOk l i = false) : PathPost l i w (.returned (.tuple #[.slice none 0 0, .int .i64 1])) w := by
  refine ⟨Below.refl _ _, none, 0, ?_, ?_⟩
  · simp [pathV, pathE, h]
  · have : pathV l i = [] := by simp [pathV, h]
    rw [this]
    exact Lib.hid (srow_nil _ _)
theorem tpath_no (l : List ByteArray) (A : Option Addr) (n c : Nat) (i : Int) (w : World) (hl : l.length = n) (hn : n ≤ 140737488351232) (h : pathOk l i = false) :
    Calls Tryd.prog 62 #[.slice A n c, .int .i64 i] w (PathPost l i w) := by
  have HM := Lib.hid (mayroot_any n w hn)
  have HN := Lib.hid (path_no (w := w) h)
  unfold pathOk at h
  rw [hl] at h
  cases hm : mayB n
  · rw [hm] at HM
    clear h hm
    go_enter Tryd.func62, Tryd.ntmps62
    go_wp2_with fail
    refine HM.out.mono ?_
    rintro e w1 ⟨rfl, rfl⟩
    go_wp2_with fail
    go_ret2
    exact HN.out
  · rw [hm] at HM h
    simp only [Bool.true_and, hasI, Bool.and_eq_false_iff, decide_eq_false_iff_not] at h
    by_cases h0 : i < 0
    · clear h hm
      go_enter Tryd.func62, Tryd.ntmps62
      go_wp2_with fail
      refine HM.out.mono ?_
      rintro e w1 ⟨rfl, rfl⟩
      go_wp2_with fail
      go_ret2
      exact HN.out
    · have h1 : (n : Int) ≤ i := by omega
      clear h hm
      go_enter Tryd.func62, Tryd.ntmps62
      go_wp2_with fail
      refine HM.out.mono ?_
      rintro e w1 ⟨rfl, rfl⟩
      go_wp2_with fail
      go_ret2
      exact HN.out
theorem side_step (l : List ByteArray) (i k : Nat) {j : Nat} {s : ByteArray} (hj : i / 2 ^ k = j) (hs : atB (lev l k) (j ^^^ 1) = s) : pathB l i k ++ [s] = pathB l i (k + 1) := by
  rw [← pathB_succ, sideB, hj, hs]
set_option maxRecDepth 100000 in
set_option maxHeartbeats 1000000 in
theorem tpath_yes (l : List ByteArray) (A : Option Addr) (n c h : Nat) (i : Nat) (w : World) (hG : Rounds w) (hL : SlR encS 1 w w.heap.size A n l) (hn : n = 2 ^ h) (hh : h ≤ 10) (hm : mayB n = true) (hi : i < n) (hs : ∀ s ∈ l, s.size ≤ 140737488351232) :
    Calls Tryd.prog 62 #[.slice A n c, .int .i64 i] w fun e w' => Below w.heap.size w w' ∧ ∃ A c, e = .returned (.tuple #[.slice A h c, .int .i64 0]) ∧ Hid (SRow w' w.heap.size (.slice A h c) (pathB l i h)) := by
  have h2 : n ≤ 1024 := by rw [hn]; exact Nat.le_trans (pow_le_two hh) (by decide)
  have hM := mayroot_any n w (by omega)
  rw [hm] at hM
  have HM := Lib.hid hM
  have HL : Hid (l.length = 2 ^ h) := Lib.hid (by rw [hL.1, hn])
  have HN := Lib.hid hn
  have HR := Lib.hid (rowsOf_any l A n c h w hG hL hn hh hs)
  have hmk := make_strs 10 (by omega)
  rw [show ((10 : Nat) : Int) = 10 from rfl] at hmk
  clear hM hL hG hs hm hn
  go_enter Tryd.func62, Tryd.ntmps62
  go_wp2_with fail
  refine HM.out.mono ?_
  rintro e w1 ⟨rfl, rfl⟩
  go_wp2_with fail
  refine HR.out.mono ?_
  rintro e w2 ⟨hb2, A2, c2, rfl, h21, h22, HR2⟩
  have hz2 := hb2.size
  have hkn := Blk.new w2 111 #[.slice A n c, .slice A2 (h + 1) c2]
  have k1 := hkn.cells 1 _ rfl
  simp only [List.getElem_toArray, List.getElem_cons_zero, List.getElem_cons_succ] at k1
  have e1 : ((h + 1 : Nat) : Int) - 1 = (h : Int) := by omega
  have e2 : IntKind.i64.wrap (h : Int) = (h : Int) := wrap_i64_nat h (by omega)
  have h3 : (h : Int) ≤ (c2 : Int) := by omega
  have h4 : (0 : Int) ≤ (h : Int) := by omega
  have HRR : Hid (∀ W, Below w2.heap.size w2 W → RRows W w2.heap.size A2 (h + 1) (levs l h)) := Lib.hid (fun W hb => HR2.out.below hb)
  have HO := Lib.hid (srow_made (w2.alloc (.cells #[.slice A n c, .slice A2 (h + 1) c2] 111)) 10 (by omega))
  clear HM HR HR2
  go_wp2
  clear k1 hkn
  go_loopw [1, 7, 35] (fun iv v kv wr => ∃ (k j : Nat) (A3 : Option Addr) (c3 : Nat), k ≤ h ∧ kv = .int .i64 k ∧ iv = .int .i64 j ∧ Hid (i / 2 ^ k = j) ∧ v = .slice A3 k c3 ∧ Hid (SRow wr (w2.heap.size + 1) (.slice A3 k c3) (pathB l i k)) ∧
      Below (w2.heap.size + 1) (w2.alloc (.cells #[.slice A n c, .slice A2 (h + 1) c2] 111)) wr) (fun _ _ kv _ => h - (intOf kv).toNat)
  case atStart => exact ⟨0, i, _, _, Nat.zero_le _, rfl, rfl, Lib.hid (by simp), rfl, by simpa [pathB] using HO, by go_grown⟩
  case round =>
    obtain ⟨k, j, A3, c3, hk, rfl, rfl, HJ, rfl, HP, hB⟩ := hrel
    have hb3 : Below w2.heap.size w2 wr := Below.trans (by go_grown) (hB.mono (by omega))
    have hzr := hB.size
    rw [World.size_alloc] at hzr
    by_cases hlt : k < h
    · obtain ⟨b, off, s, rfl, hb, hc, hq⟩ := (HRR.out wr hb3).at_ (levs_at l (by omega : k ≤ h))
      obtain ⟨sA, sn, sc⟩ := s
      simp only at hc hq
      have hq1 : (lev l k).length = sn := hq.1
      have hsn : sn = 2 ^ (h - k) := by rw [← hq1, lev_pow HL.out (by omega)]
      obtain ⟨a1, a2, a3⟩ := half_lt (i := i) (h := h) (k := k) (by rw [← HN.out]; exact hi) hlt
      rw [HJ.out, ← hsn] at a1
      rw [HJ.out] at a2
      rw [← hsn] at a3
      have hx : (j ^^^ 1) < sn := by rw [xor_one]; split <;> omega
      have hjs : sn ≤ 1024 := by rw [hsn]; exact Nat.le_trans (pow_le_two (by omega : h - k ≤ 10)) (by decide)
      obtain ⟨b2, off2, rfl, hb2', hC⟩ := hq.2.resolve_left (by omega)
      have g0 := at_of_lt (L := lev l k) (k := j ^^^ 1) (by omega)
      have c0 := hC.str g0
      have HEq := Lib.hid (side_step l i k HJ.out (Eq.refl (atB (lev l k) (j ^^^ 1))))
      generalize atB (lev l k) (j ^^^ 1) = x at c0 HEq
      have hbx : bits .xor .i64 (j : Int) 1 = ((j ^^^ 1 : Nat) : Int) := i64_xor_nat j 1 (by omega) (by omega)
      generalize (j ^^^ 1) = y at *
      have t1 : (j : Int).tdiv 2 = ((j / 2 : Nat) : Int) := rfl
      have i0 : (0 : Int) ≤ (y : Int) := by omega
      have i1 : (y : Int) < (sn : Int) := by omega
      have HPl : Hid ((pathB l i k).length = k) := Lib.hid (pathB_len l i k)
      have HJ2 : Hid (i / 2 ^ (k + 1) = j / 2) := Lib.hid a2
      have hj1 : j < sn := a1
      clear g0 hC hq hq1 hsn a1 a2 a3
      go_wp2_with (at_builtin; refine wpList_append_str rfl (.tmp 39) (.tmp 45) rfl rfl (orow_alloc HP.out _) wr.heap.size x rfl (Blk.new _ _ _) k HPl.out _ HEq.out (by omega) (by simp; omega) ?_; intro A4 c4 w4 HR4 hg4 hb4)
      clear hg4
      go_roundw
      case rel => exact ⟨k + 1, j / 2, A4, c4, by omega, by go_num, by go_num, HJ2, rfl, HR4, Below.trans hB (Below.trans (by go_grown) hb4)⟩
      case measure => simp [intOf]; omega
    · obtain rfl : k = h := by omega
      go_wp2
      go_ret2
      exact ⟨Below.trans hb2 (hb3.mono hz2), A3, c3, rfl, Lib.hid (orow_base HP.out (by omega))⟩
theorem path_yes {l : List ByteArray} {i : Int} (h : pathOk l i = true) : mayB l.length = true ∧ ∃ n : Nat, i = n ∧ n < l.length := by
  simp only [pathOk, Bool.and_eq_true, hasI, decide_eq_true_eq] at h
  exact ⟨h.1, i.toNat, by omega, by omega⟩
theorem tpath_any (l : List ByteArray) (A : Option Addr) (n c : Nat) (i : Int) (w : World) (hG : Rounds w) (hL : SlR encS 1 w w.heap.size A n l) (hn : n ≤ 140737488351232) (hs : ∀ s ∈ l, s.size ≤ 140737488351232) :
    Calls Tryd.prog 62 #[.slice A n c, .int .i64 i] w (PathPost l i w) := by
  cases h : pathOk l i
  · exact tpath_no l A n c i w hL.1 hn h
  · obtain ⟨hm, k, rfl, hk⟩ := path_yes h
    have hl := hL.1
    rw [hl] at hm hk
    obtain ⟨hp, hh⟩ := hgt_may hm
    refine (tpath_yes l A n c (hgt n) k w hG hL hp hh hm hk hs).mono ?_
    rintro e w' ⟨hb, A', c', rfl, hR⟩
    have hv : pathV l (k : Int) = pathB l k (hgt n) := by simp [pathV, h, hl]
    have he : pathE l (k : Int) = 0 := by simp [pathE, h]
    refine ⟨hb, A', c', ?_, ?_⟩
    · rw [hv, he, pathB_len]
    · rw [hv, pathB_len]; exact hR
theorem pathV_len (l : List ByteArray) (i : Int) : (pathV l i).length ≤ 10 := by
  unfold pathV
  split
  · rename_i h
    rw [pathB_len]
    exact (hgt_may (path_yes h).1).2
  · simp
end Go.Proofs.YtkaaicmadknjcaaDoor
