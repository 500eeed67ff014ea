/- pledge.All, and the reference's; shares: Big, Own, Same. -/
import Derived.Test.YtkaaicmadknjcaaDoorPldJ
import Derived.Test.YtkaaicmadknjcaaDoorPldD
import Derived.Test.YtkaaicmadknjcaaDoorTexts
import Derived.Deep.RegionHeld3
set_option linter.unusedVariables false
set_option linter.unusedSimpArgs false
namespace Go.Proofs.YtkaaicmadknjcaaDoor
open Go.RowKit
def allE (S : List ByteArray) (L : List Sh) : Int := if S.length = L.length then (if rightAll S L then 0 else 1) else 170
def allL (S : List ByteArray) (L : List Sh) : List ByteArray := if S.length = L.length then (if rightAll S L then plgs S L else []) else []
/-- what All tells, and leaves -/
def AllPost (S : List ByteArray) (L : List Sh) (w : World) (e : Ending) (w' : World) : Prop :=
  Below w.heap.size w w' ∧ ∃ A c, e = .returned (.tuple #[.slice A (allL S L).length c, .int .i64 (allE S L)]) ∧ Hid (SRow w' w.heap.size (.slice A (allL S L).length c) (allL S L))
theorem all_of_each {S : List ByteArray} {L : List Sh} {n : Nat} {w : World} {e : Ending} {w' : World} (hS : S.length = n) (hL : L.length = n) (h : EachPost S L n w e w') : AllPost S L w e w' := by
  have hE : S.length = L.length := by omega
  refine ⟨h.1, ?_⟩
  unfold allE allL
  rw [if_pos hE, if_pos hE]
  rcases h.2 with ⟨hr, A, c, rfl, hR⟩ | ⟨hr, rfl⟩
  · have hl : (plgs S L).length = n := by rw [plgs_len hE]; exact hL
    simp only [hr, if_true]
    rw [hl]
    exact ⟨A, c, rfl, hR⟩
  · simp only [hr, Bool.false_eq_true, if_false]
    exact ⟨none, 0, rfl, srow_nil w' _⟩
theorem all_of_no {S : List ByteArray} {L : List Sh} {w w' : World} (hE : S.length ≠ L.length) (hb : Below w.heap.size w w') : AllPost S L w (.returned (.tuple #[.slice none 0 0, .int .i64 170])) w' := by
  refine ⟨hb, ?_⟩
  unfold allE allL
  rw [if_neg hE, if_neg hE]
  exact ⟨none, 0, rfl, srow_nil w' _⟩
set_option maxHeartbeats 400000 in
theorem pall_yes (S : List ByteArray) (L : List Sh) (A A' : Option Addr) (n c c' : Nat) (w : World) (hG : Rounds w) (hS : SlR encS 1 w w.heap.size A n S) (hL : SlR encSh 2 w w.heap.size A' n L) (hn : n ≤ 1000000)
    (hs : ∀ s ∈ S, s.size ≤ 140737488351232) (hl : ∀ x ∈ L, x.b.size ≤ 140737488351232) :
    Calls Tryd.prog 52 #[.slice A n c, .slice A' n c'] w (EachPost S L n w) := by
  have HE := Lib.hid (each_any S L A A' n c c' w hG hS hL hn hs hl)
  clear hG hS hL hs hl
  go_enter Tryd.func52, Tryd.ntmps52
  go_wp2_with fail
  refine HE.out.mono ?_
  rintro e w1 ⟨hb1, ⟨hr, A2, c2, rfl, hR⟩ | ⟨hr, rfl⟩⟩
  · have HR := Lib.hid hR
    have Hr := Lib.hid hr
    clear hR hr HE
    go_wp2_with fail
    go_ret2
    exact ⟨hb1, .inl ⟨Hr.out, _, _, rfl, HR.out⟩⟩
  · have Hr := Lib.hid hr
    clear hr HE
    go_wp2_with fail
    go_ret2
    exact ⟨hb1, .inr ⟨Hr.out, rfl⟩⟩
theorem pall_any (S : List ByteArray) (L : List Sh) (A A' : Option Addr) (n m c c' : Nat) (w : World) (hG : Rounds w) (hS : SlR encS 1 w w.heap.size A n S) (hL : SlR encSh 2 w w.heap.size A' m L) (hn : n ≤ 1000000) (hm : m ≤ 1000000)
    (hs : ∀ s ∈ S, s.size ≤ 140737488351232) (hl : ∀ x ∈ L, x.b.size ≤ 140737488351232) :
    Calls Tryd.prog 52 #[.slice A n c, .slice A' m c'] w (AllPost S L w) := by
  by_cases h : n = m
  · subst h
    exact (pall_yes S L A A' n c c' w hG hS hL hn hs hl).mono fun e w' h => all_of_each hS.1 hL.1 h
  · refine (pall_no A A' n c m c' w h (by omega) (by omega)).mono ?_
    rintro e w' ⟨rfl, rfl⟩
    exact all_of_no (by rw [hS.1, hL.1]; exact h) (Below.refl _ _)
set_option maxRecDepth 100000 in
set_option maxHeartbeats 1000000 in
theorem rall_yes (S : List ByteArray) (L : List Sh) (A A' : Option Addr) (n c c' : Nat) (w : World) (hS : SlR encS 1 w w.heap.size A n S) (hL : SlR encSh 2 w w.heap.size A' n L) (hn : n ≤ 1000000)
    (hs : ∀ s ∈ S, s.size ≤ 140737488351232) (hl : ∀ x ∈ L, x.b.size ≤ 140737488351232) :
    Calls Tryd.prog 53 #[.slice A n c, .slice A' n c'] w (EachPost S L n w) := by
  obtain ⟨hSl, hSA⟩ := hS
  obtain ⟨hLl, hLA⟩ := hL
  by_cases h0 : n = 0
  · subst h0
    obtain rfl := List.eq_nil_of_length_eq_zero hSl
    obtain rfl := List.eq_nil_of_length_eq_zero hLl
    clear hSA hLA hs hl hSl hLl
    go_enter Tryd.func53, Tryd.ntmps53
    go_wp2
    go_loop [6, 7] (fun v i => v = .slice none 0 0 ∧ i = .int .i64 0) (fun _ _ => 0)
    case atStart => exact ⟨rfl, rfl⟩
    case round =>
      obtain ⟨rfl, rfl⟩ := hrel
      go_wp2
      go_ret2
      exact ⟨Below.refl _ _, .inl ⟨rfl, _, _, rfl, srow_nil _ _⟩⟩
  · obtain ⟨b, off, rfl, hb, hC⟩ := hSA.resolve_left h0
    obtain ⟨b', off', rfl, hb', hC'⟩ := hLA.resolve_left h0
    have HC := Lib.hid hC
    have HC' := Lib.hid hC'
    have HS := Lib.hid hs
    have HL := Lib.hid hl
    have HSl := Lib.hid hSl
    have HLl := Lib.hid hLl
    have HPl : Hid ((plgs S L).length = n) := Lib.hid (by rw [plgs_len (by rw [hSl, hLl])]; exact hLl)
    clear hSA hLA hC hC' hs hl hSl hLl h0
    go_enter Tryd.func53, Tryd.ntmps53
    go_wp2
    go_loopw [6, 7] (fun v i wr => ∃ (k : Nat) (A2 : Option Addr) (c2 : Nat), k ≤ n ∧ i = .int .i64 k ∧ v = .slice A2 k c2 ∧ Hid (SRow wr w.heap.size (.slice A2 k c2) ((plgs S L).take k)) ∧
      Hid (∀ (i : Nat) s x, i < k → S[i]? = some s → L[i]? = some x → rightX s x = true) ∧ Below w.heap.size w wr) (fun _ i _ => n - (intOf i).toNat)
    case atStart => exact ⟨0, _, _, Nat.zero_le _, rfl, rfl, srow_nil _ _, Lib.hid (fun i s x h => by omega), Below.refl _ _⟩
    case round =>
      obtain ⟨k, A2, c2, hk, rfl, rfl, HR, HU, hB⟩ := hrel
      by_cases hlt : k < n
      · obtain ⟨s, hsk⟩ : ∃ s, S[k]? = some s := ⟨S[k]'(by rw [HSl.out]; exact hlt), List.getElem?_eq_getElem _⟩
        obtain ⟨x, hxk⟩ : ∃ x, L[k]? = some x := ⟨L[k]'(by rw [HLl.out]; exact hlt), List.getElem?_eq_getElem _⟩
        have c0 := (HC.out.below hB hb).str hsk
        obtain ⟨c1, c3⟩ := (HC'.out.below hB hb').share hxk
        have Hsk := Lib.hid hsk
        have Hxk := Lib.hid hxk
        have h1 := HS.out s (List.mem_of_getElem? hsk)
        have h2 := HL.out x (List.mem_of_getElem? hxk)
        have HM := Lib.hid (fun W => rmake_any s x.b x.x W h1 h2)
        have HEq : Hid ((plgs S L).take k ++ [makeX s x] = (plgs S L).take (k + 1)) := Lib.hid (plgs_step hsk hxk)
        have HTk : Hid (((plgs S L).take k).length = k) := Lib.hid (by rw [List.length_take, HPl.out]; omega)
        have hsz := hB.size
        have i0 : (0 : Int) ≤ (k : Int) := by omega
        have i1 : (k : Int) < (n : Int) := by omega
        unfold shV at HM
        clear hsk hxk h1 h2
        obtain ⟨r, hr⟩ : ∃ r, rightX s x = r := ⟨_, rfl⟩
        go_wp2_with fail
        go_region_held3 (fun w' => w'.cell? ⟨b, off + k, none⟩ = some (.string s) ∧ w'.cell? ⟨b', off' + k * 2, none⟩ = some (.int .i64 x.x) ∧ w'.cell? ⟨b', off' + k * 2 + 1, none⟩ = some (.string x.b))
          (first | (exact ⟨c0, c1, c3⟩) | (exact ⟨(HC.out.below hB1 hb).str Hsk.out, ((HC'.out.below hB1 hb').share Hxk.out).1, ((HC'.out.below hB1 hb').share Hxk.out).2⟩))
          ((go_at_call 46; refine (HM.out _).mono ?_; rintro e w1 ⟨rfl, hb1⟩; have hB1 : Below w.heap.size w w1 := Below.trans hB (Below.trans (by go_grown) (hb1.mono hB.size))))
        have HR1 : Hid (SRow w1 w.heap.size (.slice A2 k c2) ((plgs S L).take k)) := Lib.hid (orow_below HR.out (Below.trans (by go_grown) hb1) (Nat.le_refl _))
        clear HM c0 c1 c3 HR hb1
        have hsz1 := hB1.size
        cases r
        · have hE : makeE s x.x x.b = 1 := by unfold rightX at hr; simp [makeE, hr]
          rw [hE]
          have HRt := Lib.hid (rightAll_no Hsk.out Hxk.out hr)
          clear hE hr
          go_wp2
          go_ret2
          exact ⟨by go_grown, .inr ⟨HRt.out, rfl⟩⟩
        · have hE : makeE s x.x x.b = 0 := by unfold rightX at hr; simp [makeE, hr]
          rw [hE]
          have HU1 : Hid (∀ (i : Nat) s x, i < k + 1 → S[i]? = some s → L[i]? = some x → rightX s x = true) := Lib.hid (by
            intro i s' x' hi h3 h4
            by_cases e : i = k
            · subst e
              rw [Hsk.out] at h3
              rw [Hxk.out] at h4
              injection h3 with h3
              injection h4 with h4
              subst h3 h4
              exact hr
            · exact HU.out i s' x' (by omega) h3 h4)
          clear hE hr HU
          change Hid ((plgs S L).take k ++ [makeS s x.x x.b] = (plgs S L).take (k + 1)) at HEq
          go_wp2_with (at_builtin; refine wpList_append_str rfl (.tmp 36) (.tmp 38) rfl rfl (orow_alloc HR1.out _) w1.heap.size (makeS s x.x x.b) rfl (Blk.new _ _ _) k HTk.out _ HEq.out (by omega) (by simp; omega) ?_; intro A3 c3 w3 HR3 hg3 hb3)
          clear hg3
          go_roundw
          case rel => exact ⟨k + 1, A3, c3, by omega, by go_num, rfl, HR3, HU1, Below.trans hB1 (Below.trans (by go_grown) (hb3.mono (by omega)))⟩
          case measure => simp [intOf]; omega
      · obtain rfl : k = n := by omega
        have HRt : Hid (rightAll S L = true) := Lib.hid (rightAll_yes fun i s x h1 h2 => HU.out i s x (by have := (List.getElem?_eq_some_iff.1 h1).1; rw [HSl.out] at this; exact this) h1 h2)
        have hT : (plgs S L).take k = plgs S L := List.take_of_length_le (by rw [HPl.out]; exact Nat.le_refl _)
        have hR := HR.out
        rw [hT] at hR
        have HR' := Lib.hid hR
        clear hT hR HR
        go_wp2
        go_ret2
        exact ⟨hB, .inl ⟨HRt.out, _, _, rfl, HR'.out⟩⟩
theorem rall_no (A A' : Option Addr) (n c m d : Nat) (w : World) (h : n ≠ m) (hn : n ≤ 140737488351232) (hm : m ≤ 140737488351232) :
    Calls Tryd.prog 53 #[.slice A n c, .slice A' m d] w fun e w' => e = .returned (.tuple #[.slice none 0 0, .int .i64 170]) ∧ w = w' := by
  have t : ((n : Int) != (m : Int)) = true := by simp; omega
  clear h
  go_enter Tryd.func53, Tryd.ntmps53
  go_wp2
  go_ret2
  exact ⟨rfl, rfl⟩
theorem rall17_any (S : List ByteArray) (L : List Sh) (A A' : Option Addr) (n m c c' : Nat) (w : World) (hS : SlR encS 1 w w.heap.size A n S) (hL : SlR encSh 2 w w.heap.size A' m L) (hn : n ≤ 1000000) (hm : m ≤ 1000000)
    (hs : ∀ s ∈ S, s.size ≤ 140737488351232) (hl : ∀ x ∈ L, x.b.size ≤ 140737488351232) :
    Calls Tryd.prog 53 #[.slice A n c, .slice A' m c'] w (AllPost S L w) := by
  by_cases h : n = m
  · subst h
    exact (rall_yes S L A A' n c c' w hS hL hn hs hl).mono fun e w' h => all_of_each hS.1 hL.1 h
  · refine (rall_no A A' n c m c' w h (by omega) (by omega)).mono ?_
    rintro e w' ⟨rfl, rfl⟩
    exact all_of_no (by rw [hS.1, hL.1]; exact h) (Below.refl _ _)
end Go.Proofs.YtkaaicmadknjcaaDoor
