/- platter: the references Texts, Same, Big, and the laws' far. -/
import Derived.Test.YtefodifmfjpnlaaDoorPlatK
import Derived.Test.YtefodifmfjpnlaaDoorEqs
import Derived.Deep.RegionHeld3
import Derived.Test.YtefodifmfjpnlaaDoorRow
set_option linter.unusedVariables false
namespace Go.Proofs.YtefodifmfjpnlaaDoor
open Go.RowKit
def eqP (a b : PPut) : Bool := decide (a.pos = b.pos) && decide (a.text.toList = b.text.toList)
theorem eqP_iff (a b : PPut) : eqP a b = true ↔ a = b := by
  obtain ⟨a1, a2⟩ := a; obtain ⟨b1, b2⟩ := b
  simp [eqP, bytes_eq_iff]
theorem run_neq_put (a b : PPut) (w : World) : (binOp .neq 52 (.agg #[.int .i64 a.pos, .string a.text]) (.agg #[.int .i64 b.pos, .string b.text])).run Tryd.prog w = .ok (.bool (!eqP a b)) w := by
  go_simp
  unfold eqP
  by_cases h1 : a.pos = b.pos <;> by_cases h2 : a.text.toList = b.text.toList <;> simp [h1, h2]

set_option maxRecDepth 100000 in
set_option maxHeartbeats 1000000 in
theorem ptexts_any (L M : List ByteArray) (A A' : Option Addr) (n m c d : Nat) (w : World) (hL : SlR encS 1 w w.heap.size A n L) (hM : SlR encS 1 w w.heap.size A' m M) (hn : n ≤ 140737488355328) :
    Calls Tryd.prog 31 #[.slice A n c, .slice A' m d] w fun e w' => e = .returned (.bool (eqAll eqS L M)) ∧ Below w.heap.size w w' := by
  obtain ⟨hl, hA⟩ := hL
  obtain ⟨hm, hA'⟩ := hM
  by_cases hnm : n = m
  · subst hnm
    have HEnd := Lib.hid (eqAll_end eqS (hl.trans hm.symm))
    rw [hl] at HEnd
    have HNo : Hid (∀ (k : Nat) (x y : ByteArray), L[k]? = some x → M[k]? = some y → eqS x y = false → eqAll eqS L M = false) := fun k x y => eqAll_no eqS
    generalize hv : eqAll eqS L M = v at HEnd HNo ⊢
    clear hv
    have HA := Lib.hid (And.intro hl hm)
    rcases hA with h0 | ⟨b, off, rfl, hb, hC⟩
    · subst h0
      clear hl hm
      go_enter Tryd.func31, Tryd.ntmps31
      go_wp2
      go_rounds 1
      go_ret
      exact ⟨ret_bool (HEnd.out (eqTo_zero _ _ _)).symm, by go_grown⟩
    · rcases hA' with h0 | ⟨b', off', rfl, hb', hC'⟩
      · subst h0
        clear hl hm
        go_enter Tryd.func31, Tryd.ntmps31
        go_wp2
        go_rounds 1
        go_ret
        exact ⟨ret_bool (HEnd.out (eqTo_zero _ _ _)).symm, by go_grown⟩
      · have HC := Lib.hid (And.intro hC hC')
        clear hC hC' hl hm
        go_enter Tryd.func31, Tryd.ntmps31
        go_wp2
        go_loopw [5] (fun i wr => ∃ k : Nat, k ≤ n ∧ i = .int .i64 k ∧ Hid (eqTo eqS L M k) ∧ Below w.heap.size w wr) (fun i _ => n - (intOf i).toNat)
        case atStart => exact ⟨0, Nat.zero_le _, rfl, eqTo_zero _ _ _, by go_grown⟩
        case round =>
          obtain ⟨k, hk, rfl, HU, hB⟩ := hrel
          by_cases hlt : k < n
          · obtain ⟨x, hx⟩ : ∃ x, L[k]? = some x := ⟨L[k]'(by rw [HA.out.1]; exact hlt), List.getElem?_eq_getElem _⟩
            obtain ⟨y, hy⟩ : ∃ x, M[k]? = some x := ⟨M[k]'(by rw [HA.out.2]; exact hlt), List.getElem?_eq_getElem _⟩
            have c0 := (HC.out.1.below hB hb).str hx
            have c1 := (HC.out.2.below hB hb').str hy
            have HX := Lib.hid (And.intro hx hy)
            have i0 : (0 : Int) ≤ (k : Int) := by omega
            have i1 : (k : Int) < (n : Int) := by omega
            clear hx hy
            go_wp2
            go_region
            go_wp2
            · go_ret
              exact ⟨ret_bool (HNo.out k x y HX.out.1 HX.out.2 (by have h := ‹(!x.toList == y.toList) = true›; simpa [eqS] using h)).symm, by go_grown⟩
            · go_roundw
              case rel => exact ⟨k + 1, by omega, by go_num, eqTo_succ eqS HX.out.1 HX.out.2 HU.out (by have h := ‹(!x.toList == y.toList) = false›; simpa [eqS] using h), by go_grown⟩
              case measure => simp [intOf]; omega
          · obtain rfl : k = n := by omega
            go_wp2
            go_ret
            exact ⟨ret_bool (HEnd.out HU.out).symm, hB⟩
  · rw [eqAll_len eqS (by omega)]
    have t0 : ((n : Int) != (m : Int)) = true := by simp; omega
    clear hl hA hm hA' hnm
    go_enter Tryd.func31, Tryd.ntmps31
    go_wp2
    go_ret
    exact ⟨rfl, by go_grown⟩

def samePl (p q : Plat) : Bool := eqAll eqS p.sectors q.sectors && eqAll eqP p.cache q.cache

set_option maxRecDepth 100000 in
set_option maxHeartbeats 1000000 in
theorem psame_any (p q : Plat) (A A' B B' : Option Addr) (n m c d n' m' c' d' : Nat) (w : World) (hP : PlatAt w w.heap.size A n A' m p) (hQ : PlatAt w w.heap.size B n' B' m' q) (hn : n ≤ 140737488355328) (hm : m ≤ 140737488355328) :
    Calls Tryd.prog 17 #[.agg #[.slice A n c, .slice A' m d], .agg #[.slice B n' c', .slice B' m' d']] w fun e w' => e = .returned (.bool (samePl p q)) ∧ Below w.heap.size w w' := by
  have HP := hP.pre
  have HQ := hQ.pre
  have hl := hP.2.1
  have hl' := hQ.2.1
  by_cases ht : eqAll eqS p.sectors q.sectors = true
  · have e1 : samePl p q = eqAll eqP p.cache q.cache := by simp [samePl, ht]
    rw [e1]
    by_cases hmm : m = m'
    · subst hmm
      have HEnd := Lib.hid (eqAll_end eqP (hl.trans hl'.symm))
      rw [hl] at HEnd
      have HNo : Hid (∀ (k : Nat) (x y : PPut), p.cache[k]? = some x → q.cache[k]? = some y → eqP x y = false → eqAll eqP p.cache q.cache = false) := fun k x y => eqAll_no eqP
      generalize hv : eqAll eqP p.cache q.cache = v at HEnd HNo ⊢
      have HL := Lib.hid (And.intro hl hl')
      clear hv hP hQ hl hl' e1
      go_enter Tryd.func17, Tryd.ntmps17
      go_wp2_with fail
      refine (ptexts_any p.sectors q.sectors A B n n' c c' _ (HP.step (by go_grown)).1 (HQ.step (by go_grown)).1 hn).mono ?_
      rintro e w1 ⟨rfl, hb1⟩
      rw [ht]
      have hB1 : Below w.heap.size w w1 := Below.trans (by go_grown) (hb1.mono (by simp; omega))
      have h1 := ((Blk.new w _ _).alloc _).below hb1 (by simp; omega)
      have h2 := (Blk.new_at (g := w.heap.size + 1) (by simp) _ _).below hb1 (by simp)
      have hz := hb1.size
      simp only [World.size_alloc] at hz
      have HBX := Lib.hid (And.intro h1 h2)
      have q1 := h1.cells 1 _ rfl
      have r1 := h2.cells 1 _ rfl
      simp only [List.getElem_toArray, List.getElem_cons_zero, List.getElem_cons_succ] at q1 r1
      clear h1 h2 hb1
      go_wp2_with fail
      clear q1 r1
      go_loopw [5] (fun i wr => ∃ k : Nat, k ≤ m ∧ i = .int .i64 k ∧ Hid (eqTo eqP p.cache q.cache k) ∧ Hid (Below w1.heap.size w1 wr)) (fun i _ => m - (intOf i).toNat)
      case atStart => exact ⟨0, Nat.zero_le _, rfl, eqTo_zero _ _ _, Below.refl _ _⟩
      case round =>
        obtain ⟨k, hk, rfl, HU, HB⟩ := hrel
        have hBr := hB1.trans (HB.out.mono (by omega))
        have q1 := (HBX.out.1.below HB.out (by omega)).cells 1 _ rfl
        have r1 := (HBX.out.2.below HB.out (by omega)).cells 1 _ rfl
        simp only [List.getElem_toArray, List.getElem_cons_zero, List.getElem_cons_succ] at q1 r1
        by_cases hlt : k < m
        · obtain ⟨x, hx⟩ : ∃ x, p.cache[k]? = some x := ⟨p.cache[k]'(by rw [HL.out.1]; exact hlt), List.getElem?_eq_getElem _⟩
          obtain ⟨y, hy⟩ : ∃ x, q.cache[k]? = some x := ⟨q.cache[k]'(by rw [HL.out.2]; exact hlt), List.getElem?_eq_getElem _⟩
          rcases (HP.step hBr).2.2 with h0 | ⟨b, off, rfl, hb, hC⟩
          · omega
          rcases (HQ.step hBr).2.2 with h0 | ⟨b', off', rfl, hb', hC'⟩
          · omega
          obtain ⟨c0, c1⟩ := hC.put hx
          obtain ⟨d0, d1⟩ := hC'.put hy
          have HX := Lib.hid (And.intro hx hy)
          have i0 : (0 : Int) ≤ (k : Int) := by omega
          have i1 : (k : Int) < (m : Int) := by omega
          have he := run_neq_put x y
          clear hx hy hC hC'
          go_wp2_with fail
          go_region
          all_goals go_wp2_with fail
          all_goals first
            | (go_roundw
               case rel => exact ⟨k + 1, by omega, by go_num, eqTo_succ eqP HX.out.1 HX.out.2 HU.out (by simpa using ‹(!eqP x y) = false›), HB.out.drew⟩
               case measure => simp [intOf]; omega)
            | (go_ret
               exact ⟨ret_bool (HNo.out k x y HX.out.1 HX.out.2 (by simpa using ‹(!eqP x y) = true›)).symm, by go_grown⟩)
        · obtain rfl : k = m := by omega
          go_wp2_with fail
          go_ret
          exact ⟨ret_bool (HEnd.out HU.out).symm, hBr⟩
    · rw [eqAll_len eqP (by omega)]
      have t0 : ((m : Int) != (m' : Int)) = true := by simp; omega
      clear hP hQ hl hl' e1 hmm
      go_enter Tryd.func17, Tryd.ntmps17
      go_wp2_with fail
      refine (ptexts_any p.sectors q.sectors A B n n' c c' _ (HP.step (by go_grown)).1 (HQ.step (by go_grown)).1 hn).mono ?_
      rintro e w1 ⟨rfl, hb1⟩
      rw [ht]
      have hB1 : Below w.heap.size w w1 := Below.trans (by go_grown) (hb1.mono (by simp; omega))
      have q1 := (((Blk.new w _ _).alloc _).below hb1 (by simp; omega)).cells 1 _ rfl
      have r1 := ((Blk.new_at (g := w.heap.size + 1) (by simp) _ _).below hb1 (by simp)).cells 1 _ rfl
      simp only [List.getElem_toArray, List.getElem_cons_zero, List.getElem_cons_succ] at q1 r1
      clear hb1
      go_wp2_with fail
      go_ret
      exact ⟨rfl, hB1⟩
  · have e1 : samePl p q = false := by simp [samePl, ht]
    have ht' : eqAll eqS p.sectors q.sectors = false := by simpa using ht
    rw [e1]
    clear hP hQ hl hl' e1 ht
    go_enter Tryd.func17, Tryd.ntmps17
    go_wp2_with fail
    refine (ptexts_any p.sectors q.sectors A B n n' c c' _ (HP.step (by go_grown)).1 (HQ.step (by go_grown)).1 hn).mono ?_
    rintro e w1 ⟨rfl, hb1⟩
    rw [ht']
    have hB1 : Below w.heap.size w w1 := Below.trans (by go_grown) (hb1.mono (by simp; omega))
    clear hb1
    go_wp2_with fail
    go_ret
    exact ⟨rfl, hB1⟩
end Go.Proofs.YtefodifmfjpnlaaDoor
/- platter: Big, and the laws' far. -/
namespace Go.Proofs.YtefodifmfjpnlaaDoor
open Go.RowKit
def l300 (s : ByteArray) : Bool := decide (300 < s.size)
def bigP (p : Plat) : Bool := decide (300 < p.sectors.length) || (decide (200 < p.cache.length) || (p.sectors.any l300 || p.cache.any fun x => l300 x.text))
section
variable {α : Type} {f : α → Bool} {L : List α} {k : Nat} {x : α}
theorem anyTo_succ (h : L[k]? = some x) (hu : (L.take k).any f = false) (hl : f x = false) : (L.take (k + 1)).any f = false := by
  obtain ⟨hk, he⟩ := List.getElem?_eq_some_iff.1 h
  rw [List.take_succ_eq_append_getElem hk, List.any_append, hu, he]; simp [hl]
theorem any_yes (h : L[k]? = some x) (hl : f x = true) : L.any f = true := by rw [List.any_eq_true]; exact ⟨x, List.mem_of_getElem? h, hl⟩
theorem any_end (h : (L.take L.length).any f = false) : L.any f = false := by rwa [List.take_length] at h
end

set_option maxRecDepth 100000 in
set_option maxHeartbeats 1000000 in
theorem bigP_any (p : Plat) (A A' : Option Addr) (n m c d : Nat) (w : World) (hP : PlatAt w w.heap.size A n A' m p) :
    Calls Tryd.prog 8 #[.agg #[.slice A n c, .slice A' m d]] w fun e w' => e = .returned (.bool (bigP p)) ∧ Below w.heap.size w w' := by
  obtain ⟨⟨hl, hA⟩, ⟨hl', hA'⟩⟩ := hP
  by_cases h1 : 300 < n
  · have e1 : bigP p = true := by simp [bigP, hl, h1]
    rw [e1]
    clear hl hl' hA hA' e1
    go_enter Tryd.func8, Tryd.ntmps8
    go_wp2
    go_ret
    exact ⟨rfl, by go_grown⟩
  · by_cases h2 : 200 < m
    · have e1 : bigP p = true := by simp [bigP, hl', h2]
      rw [e1]
      clear hl hl' hA hA' e1
      go_enter Tryd.func8, Tryd.ntmps8
      go_wp2
      go_ret
      exact ⟨rfl, by go_grown⟩
    · have HEnd : Hid (p.sectors.any l300 = false → (p.cache.any fun x => l300 x.text) = false → bigP p = false) := by
        intro a b
        simp [bigP, a, b, hl, hl']; omega
      have HNo1 : Hid (p.sectors.any l300 = true → bigP p = true) := fun a => by simp [bigP, a]
      have HNo2 : Hid ((p.cache.any fun x => l300 x.text) = true → bigP p = true) := fun a => by simp [bigP, a]
      generalize hv : bigP p = v at HEnd HNo1 HNo2 ⊢
      have HL := Lib.hid (And.intro hl hl')
      have HA := Lib.hid hA
      have HA' := Lib.hid hA'
      clear hv hl hl' hA hA'
      have hn : n ≤ 300 := by omega
      have hm : m ≤ 200 := by omega
      clear h1 h2
      go_enter Tryd.func8, Tryd.ntmps8
      go_wp2
      go_loopw [3] (fun i wr => ∃ k : Nat, k ≤ n ∧ i = .int .i64 k ∧ Hid ((p.sectors.take k).any l300 = false) ∧ Below w.heap.size w wr ∧ Hid (Blk wr w.heap.size 25 #[.slice A n c, .slice A' m d])) (fun i _ => n - (intOf i).toNat)
      case atStart => exact ⟨0, Nat.zero_le _, rfl, rfl, by go_grown, Blk.new _ _ _⟩
      case round =>
        obtain ⟨k, hk, rfl, HU, hB, HBX⟩ := hrel
        have q0 := HBX.out.cells 0 _ rfl
        have q1 := HBX.out.cells 1 _ rfl
        simp only [List.getElem_toArray, List.getElem_cons_zero, List.getElem_cons_succ] at q0 q1
        by_cases hlt : k < n
        · obtain ⟨x, hx⟩ : ∃ x, p.sectors[k]? = some x := ⟨p.sectors[k]'(by rw [HL.out.1]; exact hlt), List.getElem?_eq_getElem _⟩
          rcases HA.out with h0 | ⟨b, off, rfl, hb, hC⟩
          · omega
          have c0 := (hC.below hB hb).str hx
          have HX := Lib.hid hx
          have i0 : (0 : Int) ≤ (k : Int) := by omega
          have i1 : (k : Int) < (n : Int) := by omega
          clear hx hC
          go_wp2
          all_goals first
            | (go_round
               case rel => exact ⟨k + 1, by omega, by go_num, anyTo_succ HX.out HU.out (by simp [l300]; omega), by go_grown, HBX⟩
               case measure => simp [intOf]; omega)
            | (go_ret
               exact ⟨ret_bool (HNo1.out (any_yes HX.out (by simp [l300]; omega))).symm, by go_grown⟩)
        · obtain rfl : k = n := by omega
          have HS : Hid (p.sectors.any l300 = false) := any_end (by rw [HL.out.1]; exact HU.out)
          go_wp2
          go_loopw [4] (fun i wq => ∃ j : Nat, j ≤ m ∧ i = .int .i64 j ∧ Hid ((p.cache.take j).any (fun x => l300 x.text) = false) ∧ Below w.heap.size w wq ∧ Hid (Blk wq w.heap.size 25 #[.slice A k c, .slice A' m d])) (fun i _ => m - (intOf i).toNat)
          case atStart => exact ⟨0, Nat.zero_le _, rfl, rfl, hB, HBX⟩
          case round =>
            obtain ⟨j, hj, rfl, HV, hB2, HBY⟩ := hrel
            have r1 := HBY.out.cells 1 _ rfl
            simp only [List.getElem_toArray, List.getElem_cons_zero, List.getElem_cons_succ] at r1
            by_cases hlt2 : j < m
            · obtain ⟨x, hx⟩ : ∃ x, p.cache[j]? = some x := ⟨p.cache[j]'(by rw [HL.out.2]; exact hlt2), List.getElem?_eq_getElem _⟩
              rcases HA'.out with h0 | ⟨b, off, rfl, hb, hC⟩
              · omega
              obtain ⟨_, c1⟩ := (hC.below hB2 hb).put hx
              have HX := Lib.hid hx
              have i0 : (0 : Int) ≤ (j : Int) := by omega
              have i1 : (j : Int) < (m : Int) := by omega
              clear hx hC
              go_wp2
              all_goals first
                | (go_round
                   case rel => exact ⟨j + 1, by omega, by go_num, anyTo_succ HX.out HV.out (by simp [l300]; omega), by go_grown, HBY⟩
                   case measure => simp [intOf]; omega)
                | (go_ret
                   exact ⟨ret_bool (HNo2.out (any_yes (f := fun x => l300 x.text) HX.out (by simp [l300]; omega))).symm, by go_grown⟩)
            · obtain rfl : j = m := by omega
              go_wp2
              go_ret
              exact ⟨ret_bool (HEnd.out HS.out (any_end (by rw [HL.out.2]; exact HV.out))).symm, hB2⟩

def farB (p : Plat) (s : ByteArray) (nF : Nat) : Bool := bigP p || (decide (300 < s.size) || decide (300 < nF))
end Go.Proofs.YtefodifmfjpnlaaDoor
/- the laws' helpers of chapter 13: spins. -/
namespace Go.Proofs.YtefodifmfjpnlaaDoor
open Go.RowKit
def sE : ByteArray := ⟨#[]⟩
def sAbc : ByteArray := ⟨#[97, 98, 99]⟩
def sXy : ByteArray := ⟨#[120, 121]⟩
def sXbc : ByteArray := ⟨#[120, 98, 99]⟩
def pl0 : Plat := ⟨[sE, sE], []⟩
def pl1 : Plat := ⟨[sE, sE], [⟨0, sAbc⟩]⟩
def pl2 : Plat := ⟨[sAbc, sE], []⟩
def pl3 : Plat := ⟨[sAbc, sE], [⟨0, sXy⟩]⟩
def pl4 : Plat := ⟨[sXbc, sE], []⟩
theorem sp1 : newF 2 = (pl0, 0) := by rfl
theorem sp2 : writeF pl0 0 ⟨#[97, 98, 99]⟩ = (pl1, 0) := by rfl
theorem sp3 : syncF pl1 = (pl2, 0) := by rfl
theorem sp4 : writeF pl2 0 ⟨#[120, 121]⟩ = (pl3, 0) := by rfl
theorem sp5 : crashF pl3 [3] = (pl4, 0) := by rfl
theorem sp6 : readF pl4 0 = (sXbc, 0) := by rfl
theorem sp7 : writeF pl0 2 ⟨#[97]⟩ = (noPlat, 130) := by rfl
theorem sp8 : newF 0 = (noPlat, 1) := by rfl
theorem sp9 : checkP pl4 = true := by rfl
theorem PlatOut.at_ {w : World} {B : Nat} {v : Value} {p : Plat} (h : PlatOut w B v p) : ∃ A c A' c', v = .agg #[.slice A p.sectors.length c, .slice A' p.cache.length c'] ∧ PlatPre w A p.sectors.length A' p.cache.length p := by
  obtain ⟨A, c, A', c', rfl, h1, h2⟩ := h
  exact ⟨A, c, A', c', rfl, PlatAt.pre ⟨SlR.of_own encS_len h1 rfl, SlR.of_own encP_len h2 rfl⟩⟩
theorem PlatPre.on {w w1 : World} {A A' : Option Addr} {n m : Nat} {p : Plat} (h : PlatPre w A n A' m p) (hb : Below w.heap.size w w1) : PlatPre w1 A n A' m p := (h.out w1 hb).pre

end Go.Proofs.YtefodifmfjpnlaaDoor
/- chapter 13, plain: what the platter's operations keep. -/
namespace Go.Proofs.YtefodifmfjpnlaaDoor
open Go.RowKit
theorem write_ok {p : Plat} {i : Int} {s : ByteArray} (h : (writeF p i s).2 = 0) : checkP p = true ∧ hasB p.sectors.length i = true ∧ s.size ≤ 128 ∧ p.cache.length < 100 ∧ (writeF p i s).1 = ⟨p.sectors, p.cache ++ [⟨i, s⟩]⟩ := by
  unfold writeF oneF at *
  by_cases h1 : checkP p = true
  · by_cases h2 : hasB p.sectors.length i = true
    · by_cases h3 : s.size ≤ 128
      · by_cases h4 : 100 ≤ p.cache.length
        · simp [h1, h2, h3, h4] at h
        · simp only [h1, h2, h3, h4, if_true, decide_false]
          refine ⟨trivial, trivial, trivial, by omega, rfl⟩
      · simp [h1, h2, h3] at h
    · simp [h1, h2] at h
  · simp [h1] at h
theorem write_bad {p : Plat} {i : Int} {s : ByteArray} (h : (writeF p i s).2 ≠ 0) : (writeF p i s).1 = noPlat := by
  unfold writeF oneF at *
  split <;> try rfl
  split <;> try rfl
  split <;> try rfl
  split
  · rfl
  · simp_all
theorem put_ok {p : Plat} {i : Int} {s : ByteArray} (hc : checkP p = true) (hi : hasB p.sectors.length i = true) (hs : s.size ≤ 128) (hl : p.cache.length < 100) : checkP ⟨p.sectors, p.cache ++ [⟨i, s⟩]⟩ = true := by
  obtain ⟨a, b, c, d, e⟩ := (checkP_iff p).1 hc
  refine (checkP_iff _).2 ⟨a, b, by simp; omega, d, ?_⟩
  intro x hx
  simp only [List.mem_append, List.mem_singleton] at hx
  rcases hx with hx | rfl
  · exact e x hx
  · simp only [putB, longB, hi, Bool.and_true, Bool.not_eq_true', decide_eq_false_iff_not]; omega
theorem lastP_snoc (L : List PPut) (x : PPut) (i : Nat) : lastP (L ++ [x]) i = if x.pos = (i : Int) then some x else lastP L i := by
  unfold lastP
  rw [List.reverse_append]
  by_cases h : x.pos = (i : Int) <;> simp [h]
/-- what a sector has behind the first k texts is what is read of them -/
theorem settle1_get (p : Plat) (hc : checkP p = true) (i : Nat) (hi : i < p.sectors.length) : ∀ k, k ≤ p.cache.length →
    (settleTo p (fun _ => 1) k).sectors.getD i ByteArray.empty = readOf ⟨p.sectors, p.cache.take k⟩ i := by
  obtain ⟨_, _, _, _, e⟩ := (checkP_iff p).1 hc
  intro k
  induction k with
  | zero => intro _; simp [settleTo, readOf, lastP]
  | succ k ih =>
    intro hk
    have hx : p.cache[k]? = some (p.cache[k]'(by omega)) := List.getElem?_eq_getElem (by omega)
    generalize p.cache[k]'(by omega) = x at hx
    have hp := e x (List.mem_of_getElem? hx)
    have ht : p.cache.take (k + 1) = p.cache.take k ++ [x] := by rw [List.take_add_one, hx]; rfl
    have hg : p.cache.getD k noPut = x := by simp [List.getD, hx]
    have hl := (settleTo_keeps p (fun _ => 1) hc k (by omega)).1
    rw [settleTo, hg, ht]
    have h1 : fallF (settleTo p (fun _ => 1) k) x 1 = { settleTo p (fun _ => 1) k with sectors := (settleTo p (fun _ => 1) k).sectors.set x.pos.toNat x.text } := by simp [fallF]
    simp only [h1]
    simp only [putB, hasB, Bool.and_eq_true, decide_eq_true_eq] at hp
    unfold readOf
    rw [lastP_snoc]
    by_cases hxi : x.pos = (i : Int)
    · rw [if_pos hxi]
      have : x.pos.toNat = i := by omega
      rw [this]
      simp only [List.getD, List.getElem?_set_self (show i < (settleTo p (fun _ => 1) k).sectors.length by omega), Option.getD_some]
    · rw [if_neg hxi]
      have : x.pos.toNat ≠ i := by omega
      have := ih (by omega)
      unfold readOf at this
      rw [← this]
      simp only [List.getD, List.getElem?_set_ne ‹x.pos.toNat ≠ i›]
theorem sync_ok {p : Plat} (hc : checkP p = true) : (syncF p).2 = 0 ∧ (syncF p).1.cache = [] ∧ (syncF p).1.sectors.length = p.sectors.length ∧ checkP (syncF p).1 = true ∧
    ∀ i, i < p.sectors.length → (syncF p).1.sectors.getD i ByteArray.empty = readOf p i := by
  have e : syncF p = (⟨(settleTo p (fun _ => 1) p.cache.length).sectors, []⟩, 0) := by unfold syncF settleF; rw [if_pos hc]
  obtain ⟨k1, k2, _⟩ := settleTo_keeps p (fun _ => 1) hc p.cache.length (Nat.le_refl _)
  obtain ⟨a, b, c, _, _⟩ := (checkP_iff p).1 hc
  rw [e]
  refine ⟨rfl, rfl, k1, (checkP_iff _).2 ⟨by simp only; omega, by simp only; omega, by simp, k2, by simp⟩, ?_⟩
  intro i hi
  have := settle1_get p hc i hi p.cache.length (Nat.le_refl _)
  rw [List.take_length] at this
  exact this
theorem readOf_bare (S : List ByteArray) (i : Nat) : readOf ⟨S, []⟩ i = S.getD i ByteArray.empty := by simp [readOf, lastP]
theorem readF_ok {p : Plat} (hc : checkP p = true) (i : Int) : readF p i = if hasB p.sectors.length i = true then (readOf p i.toNat, 0) else (ByteArray.empty, 130) := by unfold readF; rw [if_pos hc]
theorem hasB_iff (n : Nat) (i : Int) : hasB n i = true ↔ 0 ≤ i ∧ i < n := by simp [hasB]
theorem read_sync {p : Plat} (hc : checkP p = true) (i : Int) : readF (syncF p).1 i = readF p i := by
  obtain ⟨_, h2, h3, h4, h5⟩ := sync_ok hc
  rw [readF_ok hc, readF_ok h4, h3]
  by_cases hb : hasB p.sectors.length i = true
  · rw [if_pos hb, if_pos hb]
    have hi := (hasB_iff _ _).1 hb
    have e : (syncF p).1 = ⟨(syncF p).1.sectors, []⟩ := by rw [← h2]
    rw [e, readOf_bare, h5 _ (by omega)]
  · rw [if_neg hb, if_neg hb]
/-- PlatterLast's plain law -/
theorem last_plain {p : Plat} {i o : Int} {s : ByteArray} (hio : i ≠ o) (h : (writeF p i s).2 = 0) :
    (syncF (writeF p i s).1).2 = 0 ∧ (syncF (writeF p i s).1).1.cache = [] ∧ readF (writeF p i s).1 i = (s, 0) ∧ readF (syncF (writeF p i s).1).1 i = (s, 0) ∧ readF p o = readF (syncF (writeF p i s).1).1 o := by
  obtain ⟨hc, hi, hs, hl, e⟩ := write_ok h
  rw [e]
  have hc' := put_ok hc hi hs hl
  obtain ⟨h1, h2, _⟩ := sync_ok hc'
  have hn := (hasB_iff _ _).1 hi
  have hr : readF ⟨p.sectors, p.cache ++ [⟨i, s⟩]⟩ i = (s, 0) := by
    rw [readF_ok hc', if_pos hi]
    simp only [readOf, lastP_snoc]
    rw [if_pos (by omega)]
  refine ⟨h1, h2, hr, by rw [read_sync hc', hr], ?_⟩
  rw [read_sync hc', readF_ok hc, readF_ok hc']
  by_cases hb : hasB p.sectors.length o = true
  · rw [if_pos hb, if_pos hb]
    have ho := (hasB_iff _ _).1 hb
    simp only [readOf, lastP_snoc]
    rw [if_neg (by omega)]
  · rw [if_neg hb, if_neg hb]
end Go.Proofs.YtefodifmfjpnlaaDoor
/- chapter 13, plain: a platter with an empty cache settles to itself. -/
namespace Go.Proofs.YtefodifmfjpnlaaDoor
open Go.RowKit
theorem settle_bare {p : Plat} (hc : checkP p = true) (h : p.cache = []) (f : Nat → Int) : settleF p f = (p, 0) := by
  obtain ⟨S, C⟩ := p
  dsimp only at h
  subst h
  unfold settleF
  rw [if_pos hc]
  rfl
theorem twice_plain {p : Plat} (hc : checkP p = true) (F : List Int) : (syncF p).2 = 0 ∧ checkP (syncF p).1 = true ∧ syncF (syncF p).1 = ((syncF p).1, 0) ∧ crashF (syncF p).1 F = ((syncF p).1, 0) ∧
    (∀ i, readF (syncF p).1 i = readF p i) ∧ (syncF p).1.sectors.length = p.sectors.length ∧ (syncF p).1.cache = [] := by
  obtain ⟨h1, h2, h3, h4, _⟩ := sync_ok hc
  exact ⟨h1, h4, settle_bare h4 h2 _, settle_bare h4 h2 _, read_sync hc, h3, h2⟩
theorem read_in {p : Plat} (hc : checkP p = true) {i : Nat} (hi : i < p.sectors.length) : (readF p i).2 = 0 := by
  rw [readF_ok hc, if_pos ((hasB_iff _ _).2 ⟨by omega, by omega⟩)]
end Go.Proofs.YtefodifmfjpnlaaDoor
/- chapter 13, plain: what a crash does (for PlatterCrash). -/
namespace Go.Proofs.YtefodifmfjpnlaaDoor
open Go.RowKit
def touchB (L : List PPut) (i : Nat) : Bool := L.any fun x => decide (x.pos = (i : Int))
theorem touch_snoc {L : List PPut} {k : Nat} {x : PPut} (h : L[k]? = some x) (i : Nat) : touchB (L.take (k + 1)) i = (touchB (L.take k) i || decide (x.pos = (i : Int))) := by
  unfold touchB
  rw [List.take_add_one, h, List.any_append]
  simp
theorem settleTo_same (p : Plat) (f g : Nat → Int) : ∀ k, (∀ j, j < k → f j = g j) → settleTo p f k = settleTo p g k := by
  intro k
  induction k with
  | zero => intro _; rfl
  | succ k ih => intro h; rw [settleTo, settleTo, ih fun j hj => h j (by omega), h k (by omega)]
theorem settleF_same (p : Plat) (f g : Nat → Int) (h : ∀ j, j < p.cache.length → f j = g j) : settleF p f = settleF p g := by
  unfold settleF
  rw [settleTo_same p f g _ h]
theorem settleTo_none (p : Plat) (f : Nat → Int) (h : ∀ j, f j = 0) : ∀ k, settleTo p f k = p := by
  intro k
  induction k with
  | zero => rfl
  | succ k ih => rw [settleTo, ih, h k]; simp [fallF]
theorem fallF_far (p : Plat) (x : PPut) (f : Int) (i : Nat) (h0 : 0 ≤ x.pos) (h : x.pos ≠ (i : Int)) : (fallF p x f).sectors[i]? = p.sectors[i]? := by
  have : x.pos.toNat ≠ i := by omega
  unfold fallF
  split
  · rfl
  · split <;> simp only [List.getElem?_set_ne this]
theorem settleTo_far (p : Plat) (hc : checkP p = true) (f : Nat → Int) (i : Nat) : ∀ k, k ≤ p.cache.length → touchB (p.cache.take k) i = false → (settleTo p f k).sectors[i]? = p.sectors[i]? := by
  obtain ⟨_, _, _, _, hx⟩ := (checkP_iff p).1 hc
  intro k
  induction k with
  | zero => intro _ _; rfl
  | succ k ih =>
    intro hk ht
    have hg : p.cache[k]? = some (p.cache[k]'(by omega)) := List.getElem?_eq_getElem (by omega)
    generalize p.cache[k]'(by omega) = x at hg
    have hp := hx x (List.mem_of_getElem? hg)
    simp only [putB, hasB, Bool.and_eq_true, decide_eq_true_eq] at hp
    rw [touch_snoc hg] at ht
    simp only [Bool.or_eq_false_iff, decide_eq_false_iff_not] at ht
    have hd : p.cache.getD k noPut = x := by simp [List.getD, hg]
    rw [settleTo, hd, fallF_far _ _ _ _ hp.2.1 ht.2]
    exact ih (by omega) ht.1
theorem crash_ok {p : Plat} (hc : checkP p = true) (F : List Int) : (crashF p F).2 = 0 ∧ (crashF p F).1.sectors.length = p.sectors.length ∧ (crashF p F).1.cache = [] ∧ checkP (crashF p F).1 = true ∧
    (∀ i, touchB p.cache i = false → (crashF p F).1.sectors[i]? = p.sectors[i]?) := by
  have e : crashF p F = (⟨(settleTo p (fun k => F.getD k 0) p.cache.length).sectors, []⟩, 0) := by unfold crashF settleF; rw [if_pos hc]
  obtain ⟨k1, k2, _⟩ := settleTo_keeps p (fun k => F.getD k 0) hc p.cache.length (Nat.le_refl _)
  obtain ⟨a, b, c, _, _⟩ := (checkP_iff p).1 hc
  rw [e]
  refine ⟨rfl, k1, rfl, (checkP_iff _).2 ⟨by simp only; omega, by simp only; omega, by simp, k2, by simp⟩, ?_⟩
  intro i hi
  exact settleTo_far p hc _ i _ (Nat.le_refl _) (by rwa [List.take_length])
theorem crash_ones (p : Plat) (n : Nat) (hn : p.cache.length = n) : crashF p (List.replicate n 1) = syncF p := by
  unfold crashF syncF
  refine settleF_same p _ _ fun j hj => ?_
  simp [List.getD, show j < n by omega]
theorem crash_nil {p : Plat} (hc : checkP p = true) : crashF p [] = (⟨p.sectors, []⟩, 0) := by
  unfold crashF settleF
  rw [if_pos hc, settleTo_none p _ (by intro j; simp)]
theorem ones_set (k m : Nat) (h : k < m) : (List.replicate k (1 : Int) ++ List.replicate (m - k) 0).set k 1 = List.replicate (k + 1) 1 ++ List.replicate (m - (k + 1)) 0 := by
  rw [List.set_append_right _ _ (by simp), List.length_replicate, Nat.sub_self]
  have e : m - k = (m - (k + 1)) + 1 := by omega
  rw [e, List.replicate_succ (n := m - (k + 1)), List.set_cons_zero, List.replicate_succ' (n := k), List.append_assoc]
  rfl
/-- what is known of the row 'touched' behind k texts -/
def TouchOk (p : Plat) (k : Nat) (T : List Bool) : Prop := T.length = p.sectors.length ∧ ∀ i : Nat, T[i]? = some false → touchB (p.cache.take k) i = false
theorem TouchOk.zero (p : Plat) : TouchOk p 0 (List.replicate p.sectors.length false) := ⟨by simp, fun i _ => rfl⟩
theorem TouchOk.succ {p : Plat} {k : Nat} {T : List Bool} {x : PPut} {j : Nat} (h : TouchOk p k T) (hx : p.cache[k]? = some x) (hj : x.pos = (j : Int)) (hjn : j < p.sectors.length) : TouchOk p (k + 1) (T.set j true) := by
  refine ⟨by simp [h.1], fun i hi => ?_⟩
  rw [touch_snoc hx]
  by_cases e : i = j
  · subst e
    rw [List.getElem?_set_self (by rw [h.1]; exact hjn)] at hi
    cases hi
  · rw [List.getElem?_set_ne (Ne.symm e)] at hi
    rw [h.2 i hi, hj]
    simp; omega
end Go.Proofs.YtefodifmfjpnlaaDoor
/- chapter 13, PlatterNew: the walk. -/
namespace Go.Proofs.YtefodifmfjpnlaaDoor
open Go.RowKit
theorem eqS_refl (s : ByteArray) : eqS s s = true := by simp [eqS]
theorem eqP_refl (s : PPut) : eqP s s = true := (eqP_iff s s).2 rfl
theorem samePl_iff (p q : Plat) : samePl p q = true ↔ p = q := by
  obtain ⟨a, b⟩ := p; obtain ⟨c, d⟩ := q
  simp only [samePl, Bool.and_eq_true, eqAll_iff eqS eqS_iff, eqAll_iff eqP eqP_iff, Plat.mk.injEq]
theorem samePl_refl (p : Plat) : samePl p p = true := (samePl_iff p p).2 rfl
theorem newF_len (n : Int) : (newF n).1.sectors.length ≤ 200 ∧ (newF n).1.cache.length = 0 := by
  unfold newF
  split
  · simp; omega
  · simp [noPlat]
end Go.Proofs.YtefodifmfjpnlaaDoor
