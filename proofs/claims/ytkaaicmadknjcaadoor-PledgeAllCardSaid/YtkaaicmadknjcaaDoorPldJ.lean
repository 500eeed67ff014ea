/- pledge: each, All: a row of pledges. -/
import Derived.Test.YtkaaicmadknjcaaDoorPldB
import Derived.Test.YtkaaicmadknjcaaDoorStrs
import Derived.Test.YtkaaicmadknjcaaDoorShr
set_option linter.unusedVariables false
set_option linter.unusedSimpArgs false
namespace Go.Proofs.YtkaaicmadknjcaaDoor
open Go.RowKit
theorem encSh_len (s : Sh) : (encSh s).length = 2 := rfl
theorem encSh_one (s : Sh) : ∀ u ∈ encSh s, u.oneCell' = true := by
  intro u hu
  simp only [encSh, List.mem_cons, List.not_mem_nil, or_false] at hu
  rcases hu with rfl | rfl <;> rfl
theorem SlC.share {w : World} {b off : Nat} {L : List Sh} (h : SlC encSh 2 w b off L) {k : Nat} {s : Sh} (hl : L[k]? = some s) :
    w.cell? ⟨b, off + k * 2, none⟩ = some (.int .i64 s.x) ∧ w.cell? ⟨b, off + k * 2 + 1, none⟩ = some (.string s.b) := ⟨h k s hl 0 _ rfl, h k s hl 1 _ rfl⟩
def rightX (s : ByteArray) (x : Sh) : Bool := rightB s x.x x.b
def makeX (s : ByteArray) (x : Sh) : ByteArray := makeS s x.x x.b
def rightAll (S : List ByteArray) (L : List Sh) : Bool := (List.zipWith rightX S L).all id
def plgs (S : List ByteArray) (L : List Sh) : List ByteArray := List.zipWith makeX S L
theorem plgs_len {S : List ByteArray} {L : List Sh} (h : S.length = L.length) : (plgs S L).length = L.length := by simp [plgs, h]
theorem plgs_step {S : List ByteArray} {L : List Sh} {k : Nat} {s : ByteArray} {x : Sh} (hs : S[k]? = some s) (hx : L[k]? = some x) : (plgs S L).take k ++ [makeX s x] = (plgs S L).take (k + 1) := by
  have : (plgs S L)[k]? = some (makeX s x) := by simp [plgs, List.getElem?_zipWith, hs, hx]
  obtain ⟨hlt, he⟩ := List.getElem?_eq_some_iff.1 this
  rw [List.take_succ_eq_append_getElem hlt, he]
theorem rightAll_yes {S : List ByteArray} {L : List Sh} (h : ∀ (i : Nat) s x, S[i]? = some s → L[i]? = some x → rightX s x = true) : rightAll S L = true := by
  unfold rightAll
  rw [List.all_eq_true]
  intro r hr
  obtain ⟨i, hi⟩ := List.getElem?_of_mem hr
  rw [List.getElem?_zipWith] at hi
  cases hs : S[i]? with
  | none => simp [hs] at hi
  | some s =>
    cases hx : L[i]? with
    | none => simp [hs, hx] at hi
    | some x =>
      simp only [hs, hx, Option.some.injEq] at hi
      rw [← hi]; exact h i s x hs hx
theorem rightAll_no {S : List ByteArray} {L : List Sh} {k : Nat} {s : ByteArray} {x : Sh} (hs : S[k]? = some s) (hx : L[k]? = some x) (h : rightX s x = false) : rightAll S L = false := by
  unfold rightAll
  rw [List.all_eq_false]
  refine ⟨false, ?_, by simp⟩
  have : (List.zipWith rightX S L)[k]? = some false := by simp [List.getElem?_zipWith, hs, hx, h]
  exact List.mem_of_getElem? this
/-- what each tells, and leaves -/
def EachPost (S : List ByteArray) (L : List Sh) (n : Nat) (w : World) (e : Ending) (w' : World) : Prop :=
  Below w.heap.size w w' ∧ ((rightAll S L = true ∧ ∃ A c, e = .returned (.tuple #[.slice A n c, .int .i64 0]) ∧ SRow w' w.heap.size (.slice A n c) (plgs S L)) ∨
    (rightAll S L = false ∧ e = .returned (.tuple #[.slice none 0 0, .int .i64 1])))
set_option maxRecDepth 100000 in
set_option maxHeartbeats 1000000 in
theorem each_any (S : List ByteArray) (L : List Sh) (A A' : Option Addr) (n c c' : Nat) (w : World) (hG : Rounds w) (hS : SlR encS 1 w w.heap.size A n S) (hL : SlR encSh 2 w w.heap.size A' n L) (hn : n ≤ 1000000)
    (hs : ∀ s ∈ S, s.size ≤ 140737488351232) (hl : ∀ x ∈ L, x.b.size ≤ 140737488351232) :
    Calls Tryd.prog 106 #[.slice A n c, .slice A' n c', .func (.func 45) #[] #[]] w (EachPost S L n w) := by
  obtain ⟨hSl, hSA⟩ := hS
  obtain ⟨hLl, hLA⟩ := hL
  have hmk := make_strs n (by omega)
  by_cases h0 : n = 0
  · subst h0
    obtain rfl := List.eq_nil_of_length_eq_zero hSl
    obtain rfl := List.eq_nil_of_length_eq_zero hLl
    clear hSA hLA hG hs hl hSl hLl hmk
    have hmk0 := make_strs0
    go_enter Tryd.func106, Tryd.ntmps106
    go_wp2
    have HO := Lib.hid (srow_made w 0 (by omega))
    go_loop [8, 18] (fun v i => v = .slice (some ⟨w.heap.size, 0, none⟩) 0 0 ∧ i = .int .i64 0) (fun _ _ => 0)
    case atStart => exact ⟨rfl, rfl⟩
    case round =>
      obtain ⟨rfl, rfl⟩ := hrel
      go_wp2
      go_ret2
      exact ⟨by go_grown, .inl ⟨rfl, _, _, rfl, HO.out⟩⟩
  · obtain ⟨b, off, rfl, hb, hC⟩ := hSA.resolve_left h0
    obtain ⟨b', off', rfl, hb', hC'⟩ := hLA.resolve_left h0
    have HC := Lib.hid hC
    have HC' := Lib.hid hC'
    have HG := Lib.hid hG
    have HS := Lib.hid hs
    have HL := Lib.hid hl
    have HSl := Lib.hid hSl
    have HLl := Lib.hid hLl
    have HPl : Hid ((plgs S L).length = n) := Lib.hid (by rw [plgs_len (by rw [hSl, hLl])]; exact hLl)
    have HO := Lib.hid (srow_made w n (by omega))
    clear hSA hLA hC hC' hG hs hl hSl hLl h0
    go_enter Tryd.func106, Tryd.ntmps106
    go_wp2
    go_loopw [8, 18] (fun v i wr => ∃ (k : Nat) (A2 : Option Addr) (c2 : Nat), k ≤ n ∧ i = .int .i64 k ∧ v = .slice A2 k c2 ∧ Hid (SRow wr w.heap.size (.slice A2 k c2) ((plgs S L).take k)) ∧
      Hid (∀ (i : Nat) s x, i < k → S[i]? = some s → L[i]? = some x → rightX s x = true) ∧ Below w.heap.size w wr) (fun _ i _ => n - (intOf i).toNat)
    case atStart => exact ⟨0, _, _, Nat.zero_le _, rfl, rfl, HO, Lib.hid (fun i s x h => by omega), by go_grown⟩
    case round =>
      obtain ⟨k, A2, c2, hk, rfl, rfl, HR, HU, hB⟩ := hrel
      by_cases hlt : k < n
      · obtain ⟨s, hsk⟩ : ∃ s, S[k]? = some s := ⟨S[k]'(by rw [HSl.out]; exact hlt), List.getElem?_eq_getElem _⟩
        obtain ⟨x, hxk⟩ : ∃ x, L[k]? = some x := ⟨L[k]'(by rw [HLl.out]; exact hlt), List.getElem?_eq_getElem _⟩
        have c0 := (HC.out.below hB hb).str hsk
        obtain ⟨c1, c3⟩ := (HC'.out.below hB hb').share hxk
        have Hsk := Lib.hid hsk
        have Hxk := Lib.hid hxk
        have h1 := HS.out s (List.mem_of_getElem? hsk)
        have h2 := HL.out x (List.mem_of_getElem? hxk)
        have HM := Lib.hid (fun W (h : Rounds W) => pmake_any s x.b x.x W h h1 h2)
        have HEq : Hid ((plgs S L).take k ++ [makeX s x] = (plgs S L).take (k + 1)) := Lib.hid (plgs_step hsk hxk)
        have HTk : Hid (((plgs S L).take k).length = k) := Lib.hid (by rw [List.length_take, HPl.out]; omega)
        have hsz := hB.size
        unfold shV at HM
        clear hsk hxk h1 h2
        obtain ⟨r, hr⟩ : ∃ r, rightX s x = r := ⟨_, rfl⟩
        go_wp2_with fail
        refine (HM.out _ (rounds_of HG.out hB)).mono ?_
        rintro e w1 ⟨rfl, hb1⟩
        have hB1 := hB.trans (hb1.mono hB.size)
        have HR1 := Lib.hid (orow_below HR.out hb1 (Nat.le_refl _))
        clear HM c0 c1 c3 HR hb1
        have hsz1 := hB1.size
        cases r
        · have hE : makeE s x.x x.b = 1 := by unfold rightX at hr; simp [makeE, hr]
          rw [hE]
          have HRt := Lib.hid (rightAll_no Hsk.out Hxk.out hr)
          clear hE hr
          go_wp2
          go_ret2
          exact ⟨hB1, .inr ⟨HRt.out, rfl⟩⟩
        · have hE : makeE s x.x x.b = 0 := by unfold rightX at hr; simp [makeE, hr]
          rw [hE]
          have HU1 : Hid (∀ (i : Nat) s x, i < k + 1 → S[i]? = some s → L[i]? = some x → rightX s x = true) := Lib.hid (by
            intro i s' x' hi h3 h4
            by_cases e : i = k
            · subst e
              rw [Hsk.out] at h3
              rw [Hxk.out] at h4
              injection h3 with h3
              injection h4 with h4
              subst h3 h4
              exact hr
            · exact HU.out i s' x' (by omega) h3 h4)
          clear hE hr HU
          change Hid ((plgs S L).take k ++ [makeS s x.x x.b] = (plgs S L).take (k + 1)) at HEq
          go_wp2_with (at_builtin; refine wpList_append_str rfl (.tmp 36) (.tmp 38) rfl rfl (orow_alloc HR1.out _) w1.heap.size (makeS s x.x x.b) rfl (Blk.new _ _ _) k HTk.out _ HEq.out (by omega) (by simp; omega) ?_; intro A3 c3 w3 HR3 hg3 hb3)
          clear hg3
          go_roundw
          case rel => exact ⟨k + 1, A3, c3, by omega, by go_num, rfl, HR3, HU1, Below.trans hB1 (Below.trans (by go_grown) (hb3.mono (by omega)))⟩
          case measure => simp [intOf]; omega
      · obtain rfl : k = n := by omega
        have HRt : Hid (rightAll S L = true) := Lib.hid (rightAll_yes fun i s x h1 h2 => HU.out i s x (by have := (List.getElem?_eq_some_iff.1 h1).1; rw [HSl.out] at this; exact this) h1 h2)
        have hT : (plgs S L).take k = plgs S L := List.take_of_length_le (by rw [HPl.out]; exact Nat.le_refl _)
        have hR := HR.out
        rw [hT] at hR
        have HR' := Lib.hid hR
        clear hT hR HR
        go_wp2
        go_ret2
        exact ⟨hB, .inl ⟨HRt.out, _, _, rfl, HR'.out⟩⟩
end Go.Proofs.YtkaaicmadknjcaaDoor
