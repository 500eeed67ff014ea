/- volume, plain; isCount, isPlace, beside, Hide, Show. -/
import Derived.Test.YtpkomloblhbkiaaGreatDoorTreA
import Derived.BigQuiet
import Derived.Test.YtpkomloblhbkiaaGreatDoorSealC
import Derived.Test.YtpkomloblhbkiaaGreatDoorItoa
set_option linter.unusedVariables false
set_option linter.unusedSimpArgs false
/- tree: rows to be read; rowsOf, root, told. -/
namespace Go.Proofs.YtpkomloblhbkiaaGreatDoor
open Go.RowKit
/-- rows of texts, to be read -/
def RRows (w : World) (B : Nat) (A : Option Addr) (n : Nat) (LL : List (List ByteArray)) : Prop :=
  ∃ X : List Sl, SlR encSl 1 w B A n X ∧ X.length = LL.length ∧ ∀ (i : Nat) s L, X[i]? = some s → LL[i]? = some L → SlR encS 1 w B s.A s.n L
section
variable {w w' : World} {B B' n base g : Nat} {A : Option Addr} {T : Value} {LL : List (List ByteArray)} {L : List ByteArray}
theorem RRows.below (h : RRows w B A n LL) (hb : Below B w w') : RRows w' B A n LL := by
  obtain ⟨X, h1, h2, h3⟩ := h
  exact ⟨X, h1.below hb, h2, fun i s L a b => (h3 i s L a b).below hb⟩
theorem RRows.more (h : RRows w B A n LL) (hB : B ≤ B') : RRows w B' A n LL := by
  obtain ⟨X, h1, h2, h3⟩ := h
  exact ⟨X, h1.more hB, h2, fun i s L a b => (h3 i s L a b).more hB⟩
theorem RRows.len (h : RRows w B A n LL) : LL.length = n := by
  obtain ⟨X, h1, h2, _⟩ := h
  rw [← h2]; exact h1.1
theorem RRows.at_ (h : RRows w B A n LL) {i : Nat} (hL : LL[i]? = some L) : ∃ (b off : Nat) (s : Sl), A = some ⟨b, off, none⟩ ∧ b < B ∧ w.cell? ⟨b, off + i, none⟩ = some (.slice s.A s.n s.c) ∧ SlR encS 1 w B s.A s.n L := by
  obtain ⟨X, h1, h2, h3⟩ := h
  have hi : i < X.length := by rw [h2]; exact (List.getElem?_eq_some_iff.1 hL).1
  rcases h1.2 with h0 | ⟨b, off, rfl, hb, hC⟩
  · have := h1.1; omega
  · have hs : X[i]? = some X[i] := List.getElem?_eq_getElem hi
    exact ⟨b, off, X[i], rfl, hb, hC.sl hs, h3 i _ _ hs hL⟩
theorem TR.reads (h : TR w base g T LL) : ∃ A c, Blk w g 81 #[T, .slice A LL.length c] ∧ RRows w w.heap.size A LL.length LL ∧ base ≤ g ∧ LL.length ≤ c ∧ c ≤ maxLen := by
  obtain ⟨v, X, h1, h2, h3, h4, h5⟩ := h
  obtain ⟨A, c, rfl, hc1, hc2⟩ := orow_form h3
  rw [h4] at h1 h3 hc1
  refine ⟨A, c, h1, ⟨X, slrow_slr h3 h4, h4, fun i s L a b => ?_⟩, h2, hc1, hc2⟩
  obtain ⟨q, qn⟩ := h5 i s L a b
  exact srow_slr q qn.symm
end
/-- the row that was made last -/
theorem top_r (w : World) (g : Nat) (T : Value) (A : Option Addr) (m c : Nat) (LL : List (List ByteArray)) (L : List ByteArray) (hk : Blk w g 81 #[T, .slice A (m + 1) c]) (hR : RRows w w.heap.size A (m + 1) LL) (hL : LL[m]? = some L) (hm : m ≤ 1000) :
    Calls Tryz.prog 66 #[.pointer (some ⟨g, 0, none⟩)] w fun e w' => (∃ A' c', e = .returned (.slice A' L.length c') ∧ SlR encS 1 w' w.heap.size A' L.length L) ∧ Below w.heap.size w w' := by
  obtain ⟨X, h1, h2, h3⟩ := hR
  have hi : m < X.length := by rw [h2]; exact (List.getElem?_eq_some_iff.1 hL).1
  rcases h1.2 with h0 | ⟨b, off, rfl, hb, hC⟩
  · omega
  have hs : X[m]? = some X[m] := List.getElem?_eq_getElem hi
  have hq := h3 m _ _ hs hL
  refine (top_any w g b off m c T X X[m] hk hC hs hm).mono ?_
  rintro e w' ⟨rfl, hB⟩
  have hn : X[m].n = L.length := hq.1.symm
  rw [hn] at hq ⊢
  exact ⟨⟨_, _, rfl, hq.below hB⟩, hB⟩
/-- what rowsOf tells, and leaves -/
def RowsPost (l : List ByteArray) (T : Value) (h : Nat) (w : World) (e : Ending) (w' : World) : Prop :=
  Below w.heap.size w w' ∧ ∃ A c, e = .returned (.agg #[T, .slice A (h + 1) c]) ∧ h + 1 ≤ c ∧ c ≤ maxLen ∧ Hid (RRows w' w'.heap.size A (h + 1) (levs l h))
theorem pow_le_two {k n : Nat} (h : k ≤ n) : 2 ^ k ≤ 2 ^ n := Nat.pow_le_pow_right (by omega) h
theorem leaf_step {l : List ByteArray} {k : Nat} {s : ByteArray} (hs : l[k]? = some s) : (l.map leafS).take k ++ [leafS s] = (l.map leafS).take (k + 1) := by
  have : (l.map leafS)[k]? = some (leafS s) := by simp [hs]
  obtain ⟨hlt, he⟩ := List.getElem?_eq_some_iff.1 this
  rw [List.take_succ_eq_append_getElem hlt, he]
theorem orow_low {α : Type} {e : TypeId} {enc : α → List Value} {sz : Nat} {w : World} {base g : Nat} {v : Value} {L : List α} (h : ORow e enc sz w base v L) (hg : g < base) (o : Nat) (u : Value) : ORow e enc sz (w.setCell ⟨g, o, none⟩ u) base v L :=
  own_far h (fun e => by have := (orow_lt h e).1; omega) o u
theorem TR.low {w : World} {base g k : Nat} {T : Value} {LL : List (List ByteArray)} (h : TR w base g T LL) (hk : k < base) (o : Nat) (u : Value) : TR (w.setCell ⟨k, o, none⟩ u) base g T LL := by
  obtain ⟨v, X, h1, h2, h3, h4, h5⟩ := h
  exact ⟨v, X, h1.far (by simp; omega) u, h2, orow_low h3 hk o u, h4, fun i s L a b => ⟨orow_low (h5 i s L a b).1 hk o u, (h5 i s L a b).2⟩⟩
/-- a new row that is full -/
theorem orow_new {α : Type} {e : TypeId} {enc : α → List Value} {sz : Nat} {w : World} {base g : Nat} {cs : Array Value} {L : List α} (he : ∀ x, (enc x).length = sz) (h : Blk w g e cs) (hb : base ≤ g) (hc : cs.toList = flat enc L) (hL : L.length ≤ maxLen) :
    ORow e enc sz w base (.slice (some ⟨g, 0, none⟩) L.length L.length) L := by
  have hl : cs.toList.length = L.length * sz := by rw [hc, flat_length he]
  refine ⟨flat_length he, .inr ⟨g, L.length, cs, rfl, hb, h, Nat.le_refl _, hL, by simpa using hl, ?_⟩⟩
  rw [hc, List.take_of_length_le (by rw [flat_length he]; exact Nat.le_refl _)]
/-- the first row, as rows -/
theorem tr_first {w : World} {base : Nat} {A : Option Addr} {n c : Nat} {L : List ByteArray} (T : Value) (h : SRow w base (.slice A n c) L) (hn : L.length = n) (hb : base ≤ w.heap.size) :
    TR ((w.alloc (.cells #[.slice A n c] 30)).alloc (.cells #[T, .slice (some ⟨w.heap.size, 0, none⟩) 1 1] 81)) base (w.heap.size + 1) T [L] := by
  refine ⟨.slice (some ⟨w.heap.size, 0, none⟩) 1 1, [⟨A, n, c⟩], Blk.new_at (by simp) _ _, by omega, ?_, rfl, ?_⟩
  · exact orow_new (L := [(⟨A, n, c⟩ : Sl)]) encSl_len ((Blk.new w _ _).alloc _) hb rfl (by simp [maxLen])
  · intro i s L' h1 h2
    have hi : i = 0 := by have := (List.getElem?_eq_some_iff.1 h1).1; simp at this; omega
    subst hi
    simp only [List.getElem?_cons_zero, Option.some.injEq] at h1 h2
    subst h1 h2
    exact ⟨orow_alloc (orow_alloc h _) _, hn.symm⟩
set_option maxRecDepth 100000 in
set_option maxHeartbeats 1000000 in
theorem rowsOf_any (l : List ByteArray) (A : Option Addr) (n c h : Nat) (w : World) (hG : Rounds w) (hL : SlR encS 1 w w.heap.size A n l) (hn : n = 2 ^ h) (hh : h ≤ 10) (hs : ∀ s ∈ l, s.size ≤ 140737488351232) :
    Calls Tryz.prog 31 #[.slice A n c] w (RowsPost l (.slice A n c) h w) := by
  have h1 : 1 ≤ n := by rw [hn]; exact Nat.one_le_two_pow
  have h2 : n ≤ 1024 := by rw [hn]; exact Nat.le_trans (Nat.pow_le_pow_right (by omega) hh) (by decide)
  obtain ⟨hl, hA⟩ := hL
  obtain ⟨b, off, rfl, hb, hC⟩ := hA.resolve_left (by omega)
  have HC : Hid (∀ W, Below w.heap.size w W → SlC encS 1 W b off l) := Lib.hid (fun W hB => hC.below hB hb)
  have HG := Lib.hid hG
  have Hs := Lib.hid hs
  have HLn := Lib.hid hl
  have HN := Lib.hid hn
  have HM : Hid ((l.map leafS).length = n) := Lib.hid (by simpa using hl)
  have hmk := make_strs n (by omega)
  clear hC hG hs hl hn hA
  go_enter Tryz.func31, Tryz.ntmps31
  go_wp2
  have HO := Lib.hid (srow_made (w.alloc (.cells #[.slice none 0 0, .slice none 0 0] 81)) n (by omega))
  go_loopw [3, 12] (fun v i wr => ∃ (k : Nat) (A2 : Option Addr) (c2 : Nat), k ≤ n ∧ i = .int .i64 k ∧ v = .slice A2 k c2 ∧ Hid (SRow wr (w.heap.size + 1) (.slice A2 k c2) ((l.map leafS).take k)) ∧
      Below (w.heap.size + 1) (w.alloc (.cells #[.slice none 0 0, .slice none 0 0] 81)) wr) (fun _ i _ => n - (intOf i).toNat)
  case atStart => exact ⟨0, _, _, Nat.zero_le _, rfl, rfl, by simpa using HO, by go_grown⟩
  case round =>
    obtain ⟨k, A2, c2, hk, rfl, rfl, HR, hB⟩ := hrel
    have hb1 : Below w.heap.size w wr := Below.trans (by go_grown) (hB.mono (by omega))
    have hzr := hB.size
    rw [World.size_alloc] at hzr
    by_cases hlt : k < n
    · obtain ⟨s, hsk⟩ : ∃ s, l[k]? = some s := ⟨l[k]'(by rw [HLn.out]; exact hlt), List.getElem?_eq_getElem _⟩
      have c0 := (HC.out _ hb1).str hsk
      have HEq := Lib.hid (leaf_step hsk)
      have HTk : Hid (((l.map leafS).take k).length = k) := Lib.hid (by rw [List.length_take, HM.out]; omega)
      have hsz := Hs.out s (List.mem_of_getElem? hsk)
      have HLf := Lib.hid (leaf_any s wr (rounds_of HG.out hb1) hsz)
      clear hsk
      go_wp2_with fail
      refine HLf.out.mono ?_
      rintro e w1 ⟨rfl, hb2⟩
      have hz1 := hb2.size
      have hB1 := hB.trans (hb2.mono hzr)
      have HR1 := Lib.hid (orow_below HR.out hb2 (Nat.le_refl _))
      clear HLf c0 HR hb2
      go_wp2_with (at_builtin; refine wpList_append_str rfl (.tmp 16) (.tmp 19) rfl rfl (orow_alloc HR1.out _) w1.heap.size (leafS s) rfl (Blk.new _ _ _) k HTk.out _ HEq.out (by omega) (by simp; omega) ?_; intro A3 c3 w3 HR3 hg3 hb3)
      clear hg3
      go_roundw
      case rel => exact ⟨k + 1, A3, c3, by omega, by go_num, rfl, HR3, Below.trans hB1 (Below.trans (by go_grown) hb3)⟩
      case measure => simp [intOf]; omega
    · obtain rfl : k = n := by omega
      have hR := HR.out
      rw [List.take_of_length_le (by rw [HM.out]; exact Nat.le_refl _)] at hR
      have HR' : Hid (SRow wr (w.heap.size + 1) (.slice A2 k c2) (l.map leafS)) := Lib.hid hR
      clear hR HR
      have HT0 : Hid (TR ((wr.alloc (.cells #[.slice A2 k c2] 30)).alloc (.cells #[.slice (some ⟨b, off, none⟩) k c, .slice (some ⟨wr.heap.size, 0, none⟩) 1 1] 81)) (w.heap.size + 1) (wr.heap.size + 1) (.slice (some ⟨b, off, none⟩) k c) (levs l 0)) := Lib.hid (by rw [levs_zero]; exact tr_first _ HR'.out HM.out hzr)
      have HB0 : Hid (Below (w.heap.size + 1) (w.alloc (.cells #[.slice none 0 0, .slice none 0 0] 81)) ((wr.alloc (.cells #[.slice A2 k c2] 30)).alloc (.cells #[.slice (some ⟨b, off, none⟩) k c, .slice (some ⟨wr.heap.size, 0, none⟩) 1 1] 81))) := Lib.hid (Below.trans hB (by go_grown))
      go_wp2_with fail
      generalize wr.heap.size + 1 = g at *
      clear HO hmk HR' hB hb1 hzr
      go_loopg [26] h (fun gk p wx => ∃ j, Hid (j + gk = h) ∧ Hid (TR wx (w.heap.size + 1) g (.slice (some ⟨b, off, none⟩) k c) (levs l j)) ∧ Hid (Below (w.heap.size + 1) (w.alloc (.cells #[.slice none 0 0, .slice none 0 0] 81)) wx))
      case atStart => exact ⟨0, Lib.hid (by omega), HT0, HB0⟩
      case round =>
        obtain ⟨j, HJ, HT, HB⟩ := hrel
        obtain ⟨A5, c5, hk5, hr5, hg5, hc51, hc52⟩ := HT.out.reads
        rw [levs_len] at hc51
        have HC5 := Lib.hid (And.intro hc51 hc52)
        clear hc51 hc52
        have HK5 := Lib.hid hk5
        have HR5 := Lib.hid hr5
        have hz5 := HB.out.size
        rw [World.size_alloc] at hz5
        clear hk5 hr5 hg5
        have HB5 : Hid (Below w.heap.size w wr) := Lib.hid (Below.trans (by go_grown) (HB.out.mono (by omega)))
        rw [levs_len] at HK5 HR5
        obtain ⟨q, hq⟩ : ∃ q, (lev l j).length = q := ⟨_, rfl⟩
        have HQ : Hid (q = 2 ^ (h - j)) := Lib.hid (by rw [← hq]; exact lev_pow (by rw [HLn.out, HN.out]) (by have := HJ.out; omega))
        have HQl := Lib.hid hq
        have hq2 : q ≤ 1024 := by rw [HQ.out]; exact Nat.le_trans (pow_le_two (by omega : h - j ≤ 10)) (by decide)
        have hjh : j ≤ h := by have := HJ.out; omega
        clear hq
        go_wp2_with fail
        refine (top_r wr g _ A5 j c5 (levs l j) (lev l j) HK5.out HR5.out (levs_at l (Nat.le_refl j)) (by omega)).mono ?_
        rintro e w6 ⟨⟨A6, c6, rfl, hS6⟩, hb6⟩
        have hz6 := hb6.size
        rw [HQl.out]
        have HT6 := Lib.hid (HT.out.below hb6 (Nat.le_refl _))
        have HB6 := Lib.hid (HB.out.trans (hb6.mono hz5))
        clear hS6
        by_cases hlt2 : 1 < q
        · have HJ2 : Hid (j < h) := Lib.hid (by
            rcases Nat.lt_or_ge j h with a | a
            · exact a
            · have e : h - j = 0 := by omega
              have := HQ.out
              rw [e, Nat.pow_zero] at this
              omega)
          have HT6' : Hid (TR w6 (w.heap.size + 1) g (.slice (some ⟨b, off, none⟩) k c) ((List.range j).map (lev l) ++ [lev l j])) := Lib.hid (by rw [levs_front]; exact HT6.out)
          have HG6 := Lib.hid (rounds_of HG.out (HB5.out.trans (hb6.mono (by omega))))
          have HRise := Lib.hid (rise_any w6 (w.heap.size + 1) g _ ((List.range j).map (lev l)) (lev l j) HG6.out (by omega) HT6'.out (by omega) (by simp; omega) (by rw [HQl.out]; omega) (by rw [HQl.out]; omega) (fun s hs => Nat.le_trans (lev_small s hs) (by omega)))
          go_wp2_with fail
          refine HRise.out.mono ?_
          rintro e w7 ⟨rfl, hT7, hb7⟩
          have HT7 : Hid (TR w7 (w.heap.size + 1) g (.slice (some ⟨b, off, none⟩) k c) (levs l (j + 1))) := Lib.hid (by
            rw [levs_front] at hT7
            rw [← levs_succ]
            exact hT7)
          have HB7 := Lib.hid (HB6.out.trans hb7)
          clear hT7 hb7 HRise
          go_wp2_with fail
          go_roundg (gk - 1)
          case measure => have := HJ.out; have := HJ2.out; omega
          case rel => exact ⟨j + 1, Lib.hid (by have := HJ.out; have := HJ2.out; omega), HT7, HB7⟩
        · have HJ2 : Hid (j = h) := Lib.hid (by
            rcases Nat.lt_or_ge j h with a | a
            · have : 2 ^ 1 ≤ 2 ^ (h - j) := pow_le_two (by omega)
              rw [← HQ.out] at this
              omega
            · omega)
          have hjj := HJ2.out
          subst hjj
          have hk6 := HK5.out.below hb6 HK5.out.lt
          have hblk := (Blk.new w 81 #[.slice none 0 0, .slice none 0 0]).below HB6.out (by omega)
          have k0 := hk6.cells 0 _ rfl
          have k1 := hk6.cells 1 _ rfl
          have f0 := hblk.frozen 0
          have f1 := hblk.frozen 1
          have b0 := hblk.cells 0 _ rfl
          have b1 := hblk.cells 1 _ rfl
          simp only [List.getElem_toArray, List.getElem_cons_zero, List.getElem_cons_succ] at k0 k1 b0 b1
          have HBk : Hid (Blk ((w6.setCell ⟨w.heap.size, 0, none⟩ (.slice (some ⟨b, off, none⟩) k c)).setCell ⟨w.heap.size, 1, none⟩ (.slice A5 (j + 1) c5)) w.heap.size 81 #[.slice (some ⟨b, off, none⟩) k c, .slice A5 (j + 1) c5]) := Lib.hid (by simpa using (hblk.set_ 0 (.slice (some ⟨b, off, none⟩) k c)).set_ 1 (.slice A5 (j + 1) c5))
          have HK6 := Lib.hid hk6
          clear hk6 hblk
          go_wp2_with (with_reducible refine end_at ?_)
          have r0 := HBk.out.cells 0 _ rfl
          have r1 := HBk.out.cells 1 _ rfl
          simp only [List.getElem_toArray, List.getElem_cons_zero, List.getElem_cons_succ] at r0 r1
          have HT8 := (HT6.out.low (k := w.heap.size) (by omega) 0 (.slice (some ⟨b, off, none⟩) k c)).low (k := w.heap.size) (by omega) 1 (.slice A5 (j + 1) c5)
          obtain ⟨A8, c8, hk8, hr8, _, _, _⟩ := HT8.reads
          have hk9 := (HK6.out.far (p := ⟨w.heap.size, 0, none⟩) (by have := HT6.out; obtain ⟨_, _, _, h, _⟩ := this; simp; omega) (.slice (some ⟨b, off, none⟩) k c)).far (p := ⟨w.heap.size, 1, none⟩) (by have := HT6.out; obtain ⟨_, _, _, h, _⟩ := this; simp; omega) (.slice A5 (j + 1) c5)
          have e8 : A8 = A5 := by
            have a1 := hk8.cells 1 _ rfl
            have a2 := hk9.cells 1 _ rfl
            rw [a1] at a2
            simp only [List.getElem_toArray, List.getElem_cons_zero, List.getElem_cons_succ, Option.some.injEq, Value.slice.injEq] at a2
            exact a2.1
          rw [e8, levs_len] at hr8
          refine end_ret (v := .agg #[.slice (some ⟨b, off, none⟩) k c, .slice A5 (j + 1) c5]) (by simp [results, Tryz.results31, go_sem, r0, r1]; try rfl) rfl ⟨?_, A5, c5, rfl, HC5.out.1, HC5.out.2, Lib.hid hr8⟩
          exact ((HB6.out.mono (by omega : w.heap.size ≤ w.heap.size + 1) |> Below.trans (by go_grown)).setCell (by simp) _).setCell (by simp) _
end Go.Proofs.YtpkomloblhbkiaaGreatDoor
/- tree: root, told, Root, Path. -/
namespace Go.Proofs.YtpkomloblhbkiaaGreatDoor
open Go.RowKit
/-- block g holds the rows of l, of height h, whose texts are the slice T -/
def Tree (w : World) (g : Nat) (T : Value) (l : List ByteArray) (h : Nat) : Prop := ∃ A c, Blk w g 81 #[T, .slice A (h + 1) c] ∧ RRows w w.heap.size A (h + 1) (levs l h) ∧ h + 1 ≤ c ∧ c ≤ maxLen
theorem Tree.below {w w' : World} {g h : Nat} {T : Value} {l : List ByteArray} (ht : Tree w g T l h) (hb : Below w.heap.size w w') : Tree w' g T l h := by
  obtain ⟨A, c, hk, hr, hc⟩ := ht
  exact ⟨A, c, hk.below hb hk.lt, (hr.below hb).more hb.size, hc⟩
/-- what rowsOf tells, laid into a new block -/
theorem tree_new {w : World} {A : Option Addr} {c h : Nat} {T : Value} {l : List ByteArray} (hr : RRows w w.heap.size A (h + 1) (levs l h)) (h1 : h + 1 ≤ c) (h2 : c ≤ maxLen) : Tree (w.alloc (.cells #[T, .slice A (h + 1) c] 81)) w.heap.size T l h :=
  ⟨A, c, Blk.new w _ _, (hr.below (by go_grown)).more (by simp), h1, h2⟩
theorem root_any (w : World) (g h : Nat) (T : Value) (l : List ByteArray) (ht : Tree w g T l h) (hl : l.length = 2 ^ h) (hh : h ≤ 10) :
    Calls Tryz.prog 32 #[.pointer (some ⟨g, 0, none⟩)] w fun e w' => e = .returned (.string (atB (lev l h) 0)) ∧ Below w.heap.size w w' := by
  obtain ⟨A, c, hk, hr, _, _⟩ := ht
  have HT := Lib.hid (top_r w g T A h c (levs l h) (lev l h) hk hr (levs_at l (Nat.le_refl h)) (by omega))
  have HL : Hid ((lev l h).length = 1) := Lib.hid (by rw [lev_pow hl (Nat.le_refl h)]; simp)
  clear hk hr
  go_enter Tryz.func32, Tryz.ntmps32
  go_wp2_with fail
  refine HT.out.mono ?_
  rintro e w1 ⟨⟨A', c', rfl, hS⟩, hb⟩
  rw [HL.out] at hS ⊢
  obtain ⟨b, off, rfl, hbl, hC⟩ := hS.2.resolve_left (by omega)
  have c0 := hC.str (k := 0) (at_of_lt (by rw [HL.out]; omega))
  rw [Nat.add_zero] at c0
  clear hS hC
  go_wp2_with fail
  go_ret
  exact ⟨rfl, hb⟩
theorem told_any (w : World) (g h k j : Nat) (At : Option Addr) (nt ct : Nat) (l : List ByteArray) (hL : SlR encS 1 w w.heap.size At nt l) (ht : Tree w g (.slice At nt ct) l h) (hl : l.length = 2 ^ h) (hh : h ≤ 10) (hk : k ≤ h) (hj : j < 2 ^ (h - k)) (hs : ∀ s ∈ l, s.size ≤ 140737488351232) :
    Calls Tryz.prog 34 #[.pointer (some ⟨g, 0, none⟩), .int .i64 k, .int .i64 j] w fun e w' => e = .returned (.string (toldT l k j)) ∧ Below w.heap.size w w' := by
  have h24 : 2 ^ (h - k) ≤ 1024 := Nat.le_trans (pow_le_two (by omega : h - k ≤ 10)) (by decide)
  cases k with
  | zero =>
    rw [Nat.sub_zero] at hj h24
    obtain ⟨A, c, hkk, hr, _, _⟩ := ht
    obtain ⟨b, off, rfl, hb, hC⟩ := hL.2.resolve_left (by have := hL.1; omega)
    have hn : nt = 2 ^ h := by rw [← hL.1, hl]
    have k0 := hkk.cells 0 _ rfl
    simp only [List.getElem_toArray, List.getElem_cons_zero, List.getElem_cons_succ] at k0
    have hg := at_of_lt (L := l) (k := j) (by omega)
    have c0 := hC.str hg
    have HE : Hid (toldT l 0 j = leafT (atB l j)) := Lib.hid rfl
    have hsz := hs _ (List.mem_of_getElem? hg)
    rw [← hn] at hj h24
    have HLf := Lib.hid (leafText_any (atB l j) w hsz)
    rw [HE.out]
    generalize atB l j = x at c0 hsz HLf HE ⊢
    have i0 : (0 : Int) ≤ (j : Int) := by omega
    have i1 : (j : Int) < (nt : Int) := by omega
    clear hkk hr hC hL hs hl hn hg HE
    go_enter Tryz.func34, Tryz.ntmps34
    go_wp2_with fail
    refine HLf.out.mono ?_
    rintro e w1 ⟨rfl, rfl⟩
    go_wp2_with fail
    go_ret
    exact ⟨rfl, Below.refl _ _⟩
  | succ k =>
    have hp : 2 ^ (h - k) = 2 ^ (h - (k + 1)) * 2 := by rw [← Nat.pow_succ]; congr 1; omega
    obtain ⟨A, c, hkk, hr, _, _⟩ := ht
    have k1 := hkk.cells 1 _ rfl
    simp only [List.getElem_toArray, List.getElem_cons_zero, List.getElem_cons_succ] at k1
    obtain ⟨b, off, s, rfl, hb, hc, hq⟩ := hr.at_ (levs_at l (by omega : k ≤ h))
    obtain ⟨sA, sn, sc⟩ := s
    simp only at hc hq
    have hq1 : (lev l k).length = sn := hq.1
    have hn : sn = 2 ^ (h - k) := by rw [← hq1, lev_pow hl (by omega)]
    obtain ⟨b2, off2, rfl, hb2, hC⟩ := hq.2.resolve_left (by omega)
    have g0 := at_of_lt (L := lev l k) (k := 2 * j) (by omega)
    have g1 := at_of_lt (L := lev l k) (k := 2 * j + 1) (by omega)
    have c0 := hC.str g0
    have c1 := hC.str g1
    have s0 := lev_small _ (List.mem_of_getElem? g0)
    have s1 := lev_small _ (List.mem_of_getElem? g1)
    have HE : Hid (toldT l (k + 1) j = nodeT (atB (lev l k) (2 * j)) (atB (lev l k) (2 * j + 1))) := Lib.hid rfl
    rw [HE.out]
    generalize atB (lev l k) (2 * j) = x at c0 s0 HE ⊢
    generalize atB (lev l k) (2 * j + 1) = y at c1 s1 HE ⊢
    have i0 : (0 : Int) ≤ 2 * (j : Int) := by omega
    have i1 : 2 * (j : Int) < (sn : Int) := by omega
    have i2 : (0 : Int) ≤ 2 * (j : Int) + 1 := by omega
    have i3 : 2 * (j : Int) + 1 < (sn : Int) := by omega
    have e1 : IntKind.i64.wrap (2 * (j : Int)) = 2 * (j : Int) := IntWalk.i64_in _ (by omega)
    have e2 : IntKind.i64.wrap (2 * (j : Int) + 1) = 2 * (j : Int) + 1 := IntWalk.i64_in _ (by omega)
    have e3 : IntKind.i64.wrap (((k + 1 : Nat) : Int) - 1) = (k : Int) := by rw [show ((k + 1 : Nat) : Int) - 1 = (k : Int) by omega]; exact wrap_i64_nat k (by omega)
    have e4 : ((k + 1 : Nat) : Int) - 1 = (k : Int) := by omega
    have e5 : (2 * (j : Int)).toNat = 2 * j := by omega
    have e6 : (2 * (j : Int) + 1).toNat = 2 * j + 1 := by omega
    have k00 : (0 : Int) ≤ (k : Int) := by omega
    have k01 : (k : Int) < ((h + 1 : Nat) : Int) := by omega
    have t0 : (((k + 1 : Nat) : Int) == 0) = false := by simp; omega
    clear hkk hr hC hL hs hl hn g0 g1 HE hq hq1
    go_enter Tryz.func34, Tryz.ntmps34
    go_wp2
    go_quiet (exact Calls.quiet_of_same ((nodeText_any x y _ (by omega) (by omega)).mono fun e w' h => ⟨h.1, h.2.symm⟩))
    go_wp2
    go_ret
    exact ⟨rfl, below_drewN (Below.refl _ _) _⟩
theorem troot_any (l : List ByteArray) (A : Option Addr) (n c : Nat) (w : World) (hG : Rounds w) (hL : SlR encS 1 w w.heap.size A n l) (hn : n ≤ 140737488351232) (hs : ∀ s ∈ l, s.size ≤ 140737488351232) :
    Calls Tryz.prog 87 #[.slice A n c] w fun e w' => e = .returned (.tuple #[.string (rootV l), .int .i64 (rootE l)]) ∧ Below w.heap.size w w' := by
  have hl := hL.1
  have HM := Lib.hid (mayroot_any n w hn)
  cases hm : mayB n
  · have hv : rootV l = ByteArray.empty := by simp [rootV, hl, hm]
    have he : rootE l = 1 := by simp [rootE, hl, hm]
    rw [hv, he]
    rw [hm] at HM
    clear hL hs hG hl hv he hm
    go_enter Tryz.func87, Tryz.ntmps87
    go_wp2_with fail
    refine HM.out.mono ?_
    rintro e w1 ⟨rfl, rfl⟩
    go_wp2_with fail
    go_ret2
    exact ⟨rfl, Below.refl _ _⟩
  · obtain ⟨hp, hh⟩ := hgt_may hm
    have hv : rootV l = atB (lev l (hgt n)) 0 := by simp [rootV, rootB, hl, hm]
    have he : rootE l = 0 := by simp [rootE, hl, hm]
    rw [hv, he]
    rw [hm] at HM
    have HP := Lib.hid hp
    have HL := Lib.hid hl
    have HR := Lib.hid (rowsOf_any l A n c (hgt n) w hG hL hp hh hs)
    generalize hgt n = h at *
    clear hL hs hG hl hv he hm hp
    go_enter Tryz.func87, Tryz.ntmps87
    go_wp2_with fail
    refine HM.out.mono ?_
    rintro e w1 ⟨rfl, rfl⟩
    go_wp2_with fail
    refine HR.out.mono ?_
    rintro e w2 ⟨hb2, A2, c2, rfl, h21, h22, HR2⟩
    have HT := Lib.hid (tree_new (T := .slice A n c) HR2.out h21 h22)
    have HRt := Lib.hid (root_any _ _ h _ l HT.out (by rw [HL.out, HP.out]) hh)
    go_wp2_with fail
    refine HRt.out.mono ?_
    rintro e w3 ⟨rfl, hb3⟩
    have hz := hb2.size
    clear HM HR HR2 HT HRt
    go_wp2_with fail
    go_ret2
    exact ⟨rfl, Below.trans hb2 (Below.trans (by go_grown) (hb3.mono (by simp; omega)))⟩
end Go.Proofs.YtpkomloblhbkiaaGreatDoor
namespace Go.Proofs.YtpkomloblhbkiaaGreatDoor
open Go.RowKit
structure Vol where
  blocks : List ByteArray
  root : ByteArray
def noVol : Vol := ⟨[], ⟨#[]⟩⟩
/-- the listed tables -/
def Env (w : World) : Prop := Rounds w ∧ Pows w ∧ Turns w
theorem Env.below {w w' : World} (h : Env w) (hb : Below w.heap.size w w') : Env w' := ⟨rounds_of h.1 hb, h.2.1.below hb, h.2.2.below hb h.2.2.pos⟩
def countI (n : Int) : Bool := decide (1 ≤ n) && (decide (n ≤ 64) && (n.toNat &&& (n.toNat - 1) == 0))
def placeI (i : Int) : Bool := decide (0 ≤ i) && decide (i < 64)
def besideB (i : Nat) : ByteArray := ⟨#[98, 108, 111, 99, 107, 32]⟩ ++ ⟨(Lib.decDigits i).toArray⟩
theorem digits_len : ∀ i, i < 64 → (Lib.decDigits i).length ≤ 2 := by decide +kernel
theorem beside_size {i : Nat} (h : i < 64) : (besideB i).size ≤ 8 := by
  have := digits_len i h
  unfold besideB
  rw [ByteArray.size_append]
  show 6 + (Lib.decDigits i).toArray.size ≤ 8
  rw [List.size_toArray]
  omega
def hideV (key nonce : ByteArray) (i : Int) (s : ByteArray) : ByteArray × Int :=
  if placeI i = false then (⟨#[]⟩, 1) else if 64 < s.size then (⟨#[]⟩, 2)
  else if (sealF key nonce (besideB i.toNat) s).2 = 0 then (nonce ++ (sealF key nonce (besideB i.toNat) s).1, 0) else (⟨#[]⟩, (sealF key nonce (besideB i.toNat) s).2)
def showV (key : ByteArray) (i : Int) (st : ByteArray) : ByteArray × Int :=
  if placeI i = false then (⟨#[]⟩, 1) else if st.toList = [] then (⟨#[]⟩, 0) else if st.size < 12 then (⟨#[]⟩, 60)
  else if (openF key (st.extract 0 12) (besideB i.toNat) (st.extract 12 st.size)).2 = 0 then ((openF key (st.extract 0 12) (besideB i.toNat) (st.extract 12 st.size)).1, 0)
  else (⟨#[]⟩, (openF key (st.extract 0 12) (besideB i.toNat) (st.extract 12 st.size)).2)
set_option maxRecDepth 100000 in
theorem count_any (n : Int) (w : World) : Calls Tryz.prog 79 #[.int .i64 n] w fun e w' => e = .returned (.bool (countI n)) ∧ w = w' := by
  by_cases h1 : 1 ≤ n
  · by_cases h2 : n ≤ 64
    · obtain ⟨k, rfl⟩ : ∃ k : Nat, n = k := ⟨n.toNat, by omega⟩
      have hb : bits .and .i64 (k : Int) ((k : Int) - 1) = ((k &&& (k - 1) : Nat) : Int) := by
        have := i64_and_nat k (k - 1) (by omega) (by omega)
        rwa [show ((k - 1 : Nat) : Int) = (k : Int) - 1 by omega] at this
      have hm : countI (k : Int) = (k &&& (k - 1) == 0) := by simp [countI, h1, h2]
      have hz : (((k &&& (k - 1) : Nat) : Int) == 0) = (k &&& (k - 1) == 0) := by
        rw [Bool.eq_iff_iff]; simp
      rw [hm]
      generalize (k &&& (k - 1) == 0) = q at hz ⊢
      generalize k &&& (k - 1) = m at hb hz
      clear hm
      go_enter Tryz.func79, Tryz.ntmps79
      go_wp2
      go_ret
      exact ⟨rfl, rfl⟩
    · rw [show countI n = false by simp [countI]; omega]
      go_enter Tryz.func79, Tryz.ntmps79
      go_wp2
      go_ret
      exact ⟨rfl, rfl⟩
  · rw [show countI n = false by simp [countI]; omega]
    go_enter Tryz.func79, Tryz.ntmps79
    go_wp2
    go_ret
    exact ⟨rfl, rfl⟩
set_option maxRecDepth 100000 in
theorem place_any (i : Int) (w : World) : Calls Tryz.prog 88 #[.int .i64 i] w fun e w' => e = .returned (.bool (placeI i)) ∧ w = w' := by
  by_cases h1 : 0 ≤ i
  · by_cases h2 : i < 64
    · rw [show placeI i = true by simp [placeI, h1, h2]]
      go_enter Tryz.func88, Tryz.ntmps88
      go_wp2
      go_ret
      exact ⟨rfl, rfl⟩
    · rw [show placeI i = false by simp [placeI, h1, h2]]
      go_enter Tryz.func88, Tryz.ntmps88
      go_wp2
      go_ret
      exact ⟨rfl, rfl⟩
  · rw [show placeI i = false by simp [placeI, h1]]
    go_enter Tryz.func88, Tryz.ntmps88
    go_wp2
    go_ret
    exact ⟨rfl, rfl⟩
set_option maxRecDepth 100000 in
theorem beside_any (i : Nat) (w : World) (hi : i < 64) (hG : Pows w) : Calls Tryz.prog 90 #[.int .i64 i] w fun e w' => e = .returned (.string (besideB i)) ∧ Below w.heap.size w w' := by
  have hd := digits_len i hi
  have HI := Lib.hid (itoa_any i w (by omega) hG)
  have HB : Hid (besideB i = ⟨#[98, 108, 111, 99, 107, 32]⟩ ++ ⟨(Lib.decDigits i).toArray⟩) := Lib.hid rfl
  have hs : (⟨(Lib.decDigits i).toArray⟩ : ByteArray).size ≤ 2 := by
    show (Lib.decDigits i).toArray.size ≤ 2
    rw [List.size_toArray]; exact hd
  generalize (⟨(Lib.decDigits i).toArray⟩ : ByteArray) = D at *
  generalize besideB i = T at *
  clear hG hd
  go_enter Tryz.func90, Tryz.ntmps90
  go_wp2_with fail
  refine HI.out.mono ?_
  rintro e w1 ⟨rfl, hb1⟩
  go_wp2_with fail
  go_ret
  exact ⟨by rw [HB.out]; rfl, hb1⟩
set_option maxRecDepth 100000 in
set_option maxHeartbeats 1000000 in
theorem hide_any (key nonce : ByteArray) (i : Int) (s : ByteArray) (w : World) (hE : Env w) (hs : s.size ≤ 140737488351232) :
    Calls Tryz.prog 47 #[.string key, .string nonce, .int .i64 i, .string s] w fun e w' => e = .returned (.tuple #[.string (hideV key nonce i s).1, .int .i64 (hideV key nonce i s).2]) ∧ Below w.heap.size w w' := by
  have HPL := Lib.hid (place_any i w)
  have HE := Lib.hid hE
  clear hE
  cases hp : placeI i
  · rw [show hideV key nonce i s = (⟨#[]⟩, 1) by rw [hideV, if_pos hp]]
    rw [hp] at HPL
    clear hp
    go_enter Tryz.func47, Tryz.ntmps47
    go_wp2_with fail
    refine HPL.out.mono ?_
    rintro e w1 ⟨rfl, rfl⟩
    go_wp2_with fail
    go_ret2
    exact ⟨rfl, Below.refl _ _⟩
  · by_cases hz : 64 < s.size
    · rw [show hideV key nonce i s = (⟨#[]⟩, 2) by rw [hideV, if_neg (by rw [hp]; decide), if_pos hz]]
      rw [hp] at HPL
      clear hp
      go_enter Tryz.func47, Tryz.ntmps47
      go_wp2_with fail
      refine HPL.out.mono ?_
      rintro e w1 ⟨rfl, rfl⟩
      go_wp2_with fail
      go_ret2
      exact ⟨rfl, Below.refl _ _⟩
    · have hi : 0 ≤ i ∧ i < 64 := by simpa [placeI] using hp
      obtain ⟨k, rfl⟩ : ∃ k : Nat, i = k := ⟨i.toNat, by omega⟩
      have hk : k < 64 := by omega
      have hF : hideV key nonce (k : Int) s = if (sealF key nonce (besideB k) s).2 = 0 then (nonce ++ (sealF key nonce (besideB k) s).1, 0) else (⟨#[]⟩, (sealF key nonce (besideB k) s).2) := by rw [hideV, if_neg (by rw [hp]; decide), if_neg hz]; rfl
      rw [hF]
      rw [hp] at HPL
      have HBE := Lib.hid (beside_any k w hk HE.out.2.1)
      have hbz := beside_size hk
      have HSE := Lib.hid (fun W (hW : Below w.heap.size w W) => seal_any key nonce (besideB k) s W (HE.out.2.2.below hW HE.out.2.2.pos) (by omega) hs)
      generalize besideB k = T at *
      obtain ⟨⟨x, q⟩, hV⟩ : ∃ V, sealF key nonce T s = V := ⟨_, rfl⟩
      rw [hV] at HSE ⊢
      have HQ : Hid (q = 0 → nonce.size + x.size ≤ 1000000) := Lib.hid (fun h => by
        subst h
        have h1 := seal_size hV
        have h2 := (seal_ok hV).2.1
        omega)
      clear hV hF hp hi
      dsimp only at *
      go_enter Tryz.func47, Tryz.ntmps47
      go_wp2_with fail
      refine HPL.out.mono ?_
      rintro e w1 ⟨rfl, rfl⟩
      go_wp2_with fail
      refine HBE.out.mono ?_
      rintro e w2 ⟨rfl, hb2⟩
      have HB2 := Lib.hid hb2
      clear hb2
      go_wp2_with fail
      refine (HSE.out _ HB2.out).mono ?_
      rintro e w3 ⟨rfl, hb3⟩
      have HB3 := Lib.hid (HB2.out.trans (hb3.mono HB2.out.size))
      clear hb3
      by_cases hq : q = 0
      · have hxs := HQ.out hq
        subst hq
        go_wp2_with fail
        go_ret2
        exact ⟨by simp, HB3.out⟩
      · go_wp2_with fail
        go_ret2
        exact ⟨by simp [hq], HB3.out⟩
theorem show_none (key : ByteArray) {i : Int} (h : placeI i = true) : showV key i ⟨#[]⟩ = (⟨#[]⟩, 0) := by
  rw [showV, if_neg (by rw [h]; decide), if_pos (by kernel_rfl)]
set_option maxRecDepth 100000 in
set_option maxHeartbeats 1000000 in
theorem show_any (key : ByteArray) (i : Int) (st : ByteArray) (w : World) (hE : Env w) (hs : st.size ≤ 140737488351232) :
    Calls Tryz.prog 53 #[.string key, .int .i64 i, .string st] w fun e w' => e = .returned (.tuple #[.string (showV key i st).1, .int .i64 (showV key i st).2]) ∧ Below w.heap.size w w' := by
  have HPL := Lib.hid (place_any i w)
  have HE := Lib.hid hE
  clear hE
  cases hp : placeI i
  · rw [show showV key i st = (⟨#[]⟩, 1) by rw [showV, if_pos hp]]
    rw [hp] at HPL
    clear hp
    go_enter Tryz.func53, Tryz.ntmps53
    go_wp2_with fail
    refine HPL.out.mono ?_
    rintro e w1 ⟨rfl, rfl⟩
    go_wp2_with fail
    go_ret2
    exact ⟨rfl, Below.refl _ _⟩
  · by_cases ht : st.toList = []
    · rw [show showV key i st = (⟨#[]⟩, 0) by rw [showV, if_neg (by rw [hp]; decide), if_pos ht]]
      rw [hp] at HPL
      clear hp
      go_enter Tryz.func53, Tryz.ntmps53
      go_wp2_with fail
      refine HPL.out.mono ?_
      rintro e w1 ⟨rfl, rfl⟩
      go_wp2_with fail
      go_ret2
      exact ⟨rfl, Below.refl _ _⟩
    · have hF0 : showV key i st = if st.size < 12 then (⟨#[]⟩, 60)
          else if (openF key (st.extract 0 12) (besideB i.toNat) (st.extract 12 st.size)).2 = 0 then ((openF key (st.extract 0 12) (besideB i.toNat) (st.extract 12 st.size)).1, 0)
          else (⟨#[]⟩, (openF key (st.extract 0 12) (besideB i.toNat) (st.extract 12 st.size)).2) := by rw [showV, if_neg (by rw [hp]; decide), if_neg ht]
      have ht' : st.toList.isEmpty = false := by cases h : st.toList with | nil => exact absurd h ht | cons a b => rfl
      by_cases hz : st.size < 12
      · rw [hF0, if_pos hz]
        rw [hp] at HPL
        clear hp hF0 ht
        go_enter Tryz.func53, Tryz.ntmps53
        go_wp2_with fail
        refine HPL.out.mono ?_
        rintro e w1 ⟨rfl, rfl⟩
        go_wp2_with fail
        go_ret2
        exact ⟨rfl, Below.refl _ _⟩
      · rw [hF0, if_neg hz]
        have hi : 0 ≤ i ∧ i < 64 := by simpa [placeI] using hp
        obtain ⟨k, rfl⟩ : ∃ k : Nat, i = k := ⟨i.toNat, by omega⟩
        have hk : k < 64 := by omega
        rw [show ((k : Int)).toNat = k from rfl]
        rw [hp] at HPL
        have HBE := Lib.hid (fun W (hW : Below w.heap.size w W) => beside_any k W hk (HE.out.2.1.below hW))
        have hbz := beside_size hk
        have HOP := Lib.hid (fun W (hW : Below w.heap.size w W) => open_any key (st.extract 0 12) (besideB k) (st.extract 12 st.size) W (HE.out.2.2.below hW HE.out.2.2.pos) (by omega) (by rw [ByteArray.size_extract]; omega))
        generalize besideB k = T at *
        obtain ⟨⟨x, q⟩, hV⟩ : ∃ V, openF key (st.extract 0 12) T (st.extract 12 st.size) = V := ⟨_, rfl⟩
        rw [hV] at HOP ⊢
        have e1 : (12 : Int) ≤ (st.size : Int) := by omega
        have e2 : decide ((st.size : Int) < 12) = false := by simp; omega
        have e3 : decide (st.size < 12) = false := by simp; omega
        clear hV hF0 hp hi ht
        dsimp only at *
        go_enter Tryz.func53, Tryz.ntmps53
        go_wp2_with fail
        refine HPL.out.mono ?_
        rintro e w1 ⟨rfl, rfl⟩
        go_wp2_with fail
        refine wp_region_held_drew (S := fun W => Below w.heap.size w W) (by kernel_rfl) ((Below.refl _ _).drew) (fun hHeld => ?_)
        refine wpAnyH_take (i := 0) (v := ?v1) rfl (by kernel_rfl) (by kernel_rfl) (by kernel_rfl) (fun _ _ _ h => h) (Or.inl ⟨by rfl, ?hy1⟩) hHeld ?rest1
        case hy1 => (intro w hSw; (try dsimp only at hSw); go_simp; try with_reducible rfl)
        try simp only [Act.put, lst]
        refine wpAnyH_take (i := 1) (v := ?v2) rfl (by kernel_rfl) (by kernel_rfl) (by kernel_rfl) (fun _ _ _ h => h) (Or.inl ⟨by rfl, ?hy2⟩) hHeld ?rest2
        case hy2 => (intro w hSw; (try dsimp only at hSw); go_simp; try with_reducible rfl)
        try simp only [Act.put, lst]
        refine wpAnyH_take (i := 2) (v := ?v3) rfl (by kernel_rfl) (by kernel_rfl) (by kernel_rfl) (fun _ _ _ h => h) (Or.inl ⟨by rfl, ?hy3⟩) hHeld ?rest3
        case hy3 => (intro w hSw; (try dsimp only at hSw); go_simp; try with_reducible rfl)
        try simp only [Act.put, lst]
        refine wpAnyH_take (i := 3) (v := ?v4) rfl (by kernel_rfl) (by kernel_rfl) (by kernel_rfl) (fun _ _ _ h => h) (Or.inl ⟨by rfl, ?hy4⟩) hHeld ?rest4
        case hy4 => (intro w hSw; (try dsimp only at hSw); go_simp; try with_reducible rfl)
        try simp only [Act.put, lst]
        refine wpAnyH_take (i := 5) (v := ?v5) rfl (by kernel_rfl) (by kernel_rfl) (by kernel_rfl) (fun _ _ _ h => h) (Or.inl ⟨by rfl, ?hy5⟩) hHeld ?rest5
        case hy5 => (intro w hSw; (try dsimp only at hSw); go_simp; try with_reducible rfl)
        try simp only [Act.put, lst]
        refine wpAnyH_take (i := 6) (v := ?v6) rfl (by kernel_rfl) (by kernel_rfl) (by kernel_rfl) (fun _ _ _ h => h) (Or.inl ⟨by rfl, ?hy6⟩) hHeld ?rest6
        case hy6 => (intro w hSw; (try dsimp only at hSw); go_simp; try with_reducible rfl)
        try simp only [Act.put, lst]
        refine wpAnyH_ready (rs := [4]) (by kernel_rfl) (by simp) ?_
        refine AllReadyH.cons rfl (fun K hK => ?_) AllReadyH.nil
        have hPrev := Lib.hid hHeld
        clear hHeld
        go_simp
        refine (HBE.out _ hPrev.out).mono ?_
        rintro e' w2 ⟨rfl, hb2⟩
        go_simp
        refine hK.out _ _ (hPrev.out.trans (hb2.mono hPrev.out.size)) (fun hHeld => ?_)
        clear hK K hPrev
        try simp only [Act.put, lst]
        refine wpAnyH_ready (rs := [7]) (by kernel_rfl) (by simp) ?_
        refine AllReadyH.cons rfl (fun K hK => ?_) AllReadyH.nil
        have hPrev := Lib.hid hHeld
        clear hHeld
        go_simp
        refine (HOP.out _ hPrev.out).mono ?_
        rintro e' w3 ⟨rfl, hb3⟩
        go_simp
        refine hK.out _ _ (hPrev.out.trans (hb3.mono hPrev.out.size)) (fun hHeld => ?_)
        clear hK K hPrev
        try simp only [Act.put, lst]
        refine wpAnyH_take (i := 8) (v := ?v9) rfl (by kernel_rfl) (by kernel_rfl) (by kernel_rfl) (fun _ _ _ h => h) (Or.inl ⟨by rfl, ?hy9⟩) hHeld ?rest9
        case hy9 => (intro w hSw; (try dsimp only at hSw); go_simp; try with_reducible rfl)
        try simp only [Act.put, lst]
        refine wpAnyH_take (i := 9) (v := ?v10) rfl (by kernel_rfl) (by kernel_rfl) (by kernel_rfl) (fun _ _ _ h => h) (Or.inl ⟨by rfl, ?hy10⟩) hHeld ?rest10
        case hy10 => (intro w hSw; (try dsimp only at hSw); go_simp; try with_reducible rfl)
        try simp only [Act.put, lst]
        refine wpAnyH_take (i := 10) (v := ?v11) rfl (by kernel_rfl) (by kernel_rfl) (by kernel_rfl) (fun _ _ _ h => h) (Or.inl ⟨by rfl, ?hy11⟩) hHeld ?rest11
        case hy11 => (intro w hSw; (try dsimp only at hSw); go_simp; try with_reducible rfl)
        try simp only [Act.put, lst]
        refine wpAnyH_take (i := 11) (v := ?v12) rfl (by kernel_rfl) (by kernel_rfl) (by kernel_rfl) (fun _ _ _ h => h) (Or.inl ⟨by rfl, ?hy12⟩) hHeld ?rest12
        case hy12 => (intro w hSw; (try dsimp only at hSw); go_simp; try with_reducible rfl)
        try simp only [Act.put, lst]
        refine wpAnyH_take (i := 12) (v := ?v13) rfl (by kernel_rfl) (by kernel_rfl) (by kernel_rfl) (fun _ _ _ h => h) (Or.inl ⟨by rfl, ?hy13⟩) hHeld ?rest13
        case hy13 => (intro w hSw; (try dsimp only at hSw); go_simp; try with_reducible rfl)
        try simp only [Act.put, lst]
        refine wpAnyH_done (by kernel_rfl) ?_ _
        have HB3 : Hid (Below w.heap.size w w3) := Lib.hid hHeld
        clear hHeld
        by_cases hq : q = 0
        · subst hq
          go_wp2_with fail
          go_ret2
          exact ⟨by simp, HB3.out⟩
        · go_wp2_with fail
          go_ret2
          exact ⟨by simp [hq], HB3.out⟩
end Go.Proofs.YtpkomloblhbkiaaGreatDoor
