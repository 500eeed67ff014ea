/- platter: sectors, texts that wait; has and Check. -/
import Derived.Test.YtpkomloblhbkiaaGreatDoorWordA
set_option linter.unusedVariables false
namespace Go.Proofs.YtpkomloblhbkiaaGreatDoor
open Go.RowKit
structure PPut where
  pos : Int
  text : ByteArray
structure Plat where
  sectors : List ByteArray
  cache : List PPut
def encP (p : PPut) : List Value := [.int .i64 p.pos, .string p.text]
theorem encP_len (s : PPut) : (encP s).length = 2 := rfl
theorem SlC.put {w : World} {b off : Nat} {L : List PPut} (h : SlC encP 2 w b off L) {k : Nat} {s : PPut} (hl : L[k]? = some s) :
    w.cell? ⟨b, off + k * 2, none⟩ = some (.int .i64 s.pos) ∧ w.cell? ⟨b, off + k * 2 + 1, none⟩ = some (.string s.text) := ⟨h k s hl 0 _ rfl, h k s hl 1 _ rfl⟩
def longB (s : ByteArray) : Bool := decide (128 < s.size)
def hasB (n : Nat) (i : Int) : Bool := decide (0 ≤ i) && decide (i < n)
def putB (n : Nat) (p : PPut) : Bool := !longB p.text && hasB n p.pos
def checkP (p : Plat) : Bool := decide (1 ≤ p.sectors.length) && (decide (p.sectors.length ≤ 200) && (decide (p.cache.length ≤ 100) && (!p.sectors.any longB && p.cache.all (putB p.sectors.length))))
set_option maxRecDepth 100000 in
theorem long_any (s : ByteArray) (w : World) : Calls Tryz.prog 101 #[.string s] w fun e w' => e = .returned (.bool (longB s)) ∧ w = w' := by
  go_enter Tryz.func101, Tryz.ntmps101
  go_wp2
  go_ret
  exact ⟨ret_bool (by simp [longB]; omega), rfl⟩
set_option maxRecDepth 100000 in
theorem has_any (p : Plat) (n m : Nat) (A B : Option Addr) (c d : Nat) (i : Int) (w : World) (hn : p.sectors.length = n) :
    Calls Tryz.prog 62 #[.agg #[.slice A n c, .slice B m d], .int .i64 i] w fun e w' => e = .returned (.bool (hasB p.sectors.length i)) ∧ Below w.heap.size w w' := by
  rw [hn]
  by_cases h0 : 0 ≤ i
  · go_enter Tryz.func62, Tryz.ntmps62
    go_wp2
    go_ret
    exact ⟨ret_bool (by simp [hasB, h0]), by go_grown⟩
  · go_enter Tryz.func62, Tryz.ntmps62
    go_wp2
    go_ret
    exact ⟨ret_bool (by simp [hasB]; omega), by go_grown⟩
def IdxOf (b : Bool) (w : World) (e : Ending) (w' : World) : Prop := ∃ k : Int, e = .returned (.int .i64 k) ∧ decide (0 ≤ k) = b ∧ w = w'
theorem any_long_no (L : List ByteArray) (h : (L.take L.length).any longB = false) : L.any longB = false := by rwa [List.take_length] at h
theorem any_long_yes {L : List ByteArray} {k : Nat} {s : ByteArray} (h : L[k]? = some s) (hl : longB s = true) : L.any longB = true := by
  rw [List.any_eq_true]; exact ⟨s, List.mem_of_getElem? h, hl⟩
theorem any_long_succ {L : List ByteArray} {k : Nat} {s : ByteArray} (h : L[k]? = some s) (hu : (L.take k).any longB = false) (hl : longB s = false) : (L.take (k + 1)).any longB = false := by
  obtain ⟨hk, he⟩ := List.getElem?_eq_some_iff.1 h
  rw [List.take_succ_eq_append_getElem hk, List.any_append, hu, he]; simp [hl]
set_option maxRecDepth 100000 in
set_option maxHeartbeats 400000 in
theorem index_long (L : List ByteArray) (A : Option Addr) (n c : Nat) (w : World) (hS : SlR encS 1 w w.heap.size A n L) (hn : n ≤ 140737488355328) :
    Calls Tryz.prog 122 #[.slice A n c, .func (.func 101) #[] #[]] w (IdxOf (L.any longB) w) := by
  obtain ⟨rfl, hA⟩ := hS
  rcases hA with h0 | ⟨b, off, rfl, hb, hC⟩
  · obtain rfl : L = [] := List.eq_nil_of_length_eq_zero h0
    go_enter Tryz.func122, Tryz.ntmps122
    go_wp2
    go_rounds 1
    go_ret
    exact ⟨-1, rfl, rfl, rfl⟩
  · have HC := Lib.hid hC
    clear hC
    go_enter Tryz.func122, Tryz.ntmps122
    go_wp2
    go_loop [8] (fun i => ∃ k : Nat, k ≤ L.length ∧ i = .int .i64 k ∧ Hid ((L.take k).any longB = false)) (fun i => L.length - (intOf i).toNat)
    case atStart => exact ⟨0, Nat.zero_le _, rfl, rfl⟩
    case round =>
      obtain ⟨k, hk, rfl, HU⟩ := hrel
      by_cases hlt : k < L.length
      · obtain ⟨s, hs⟩ : ∃ x, L[k]? = some x := ⟨L[k], List.getElem?_eq_getElem hlt⟩
        have c0 := HC.out.str hs
        have HX := Lib.hid hs
        clear hs
        go_wp2_with (go_at_call 101; refine (long_any _ _).mono ?_; rintro e w' ⟨rfl, rfl⟩)
        · go_ret
          exact ⟨k, rfl, by rw [any_long_yes HX.out (by assumption)]; simp, rfl⟩
        · go_round
          case rel => exact ⟨k + 1, by omega, by go_num, any_long_succ HX.out HU.out (by assumption)⟩
          case measure => simp [intOf]; omega
      · obtain rfl : k = L.length := by omega
        go_wp2
        go_ret
        exact ⟨-1, rfl, by rw [any_long_no _ HU.out]; simp, rfl⟩
set_option maxRecDepth 100000 in
theorem contains_long (L : List ByteArray) (A : Option Addr) (n c : Nat) (w : World) (hS : SlR encS 1 w w.heap.size A n L) (hn : n ≤ 140737488355328) :
    Calls Tryz.prog 102 #[.slice A n c, .func (.func 101) #[] #[]] w fun e w' => e = .returned (.bool (L.any longB)) ∧ w = w' := by
  go_enter Tryz.func102, Tryz.ntmps102
  go_wp2_with fail
  refine (index_long L A n c w hS hn).mono ?_
  rintro e w' ⟨k, rfl, hk, rfl⟩
  have HK := Lib.hid hk
  clear hk
  go_wp2_with fail
  go_ret
  exact ⟨ret_bool (by rw [← HK.out]), rfl⟩
end Go.Proofs.YtpkomloblhbkiaaGreatDoor
/- platter.Check. -/
namespace Go.Proofs.YtpkomloblhbkiaaGreatDoor
open Go.RowKit
theorem checkP_put (p : Plat) (k : Nat) (x : PPut) (h : p.cache[k]? = some x) (hx : putB p.sectors.length x = false) : checkP p = false := by
  have : p.cache.all (putB p.sectors.length) = false := by rw [List.all_eq_false]; exact ⟨x, List.mem_of_getElem? h, by simp [hx]⟩
  simp [checkP, this]
theorem upP_succ {n : Nat} {L : List PPut} {k : Nat} {x : PPut} (h : L[k]? = some x) (hu : (L.take k).all (putB n) = true) (hx : putB n x = true) : (L.take (k + 1)).all (putB n) = true := by
  obtain ⟨hk, he⟩ := List.getElem?_eq_some_iff.1 h
  rw [List.take_succ_eq_append_getElem hk, List.all_append, hu, he]; simp [hx]
/-- a platter that lies in memory -/
def PlatAt (w : World) (B : Nat) (A : Option Addr) (n : Nat) (A' : Option Addr) (m : Nat) (p : Plat) : Prop := SlR encS 1 w B A n p.sectors ∧ SlR encP 2 w B A' m p.cache
theorem PlatAt.grow {w w' : World} {A A' : Option Addr} {n m : Nat} {p : Plat} (h : PlatAt w w.heap.size A n A' m p) (hb : Below w.heap.size w w') : PlatAt w' w'.heap.size A n A' m p :=
  ⟨(h.1.below hb).more hb.size, (h.2.below hb).more hb.size⟩
set_option maxRecDepth 100000 in
set_option maxHeartbeats 1000000 in
theorem checkP_any (p : Plat) (A A' : Option Addr) (n m c d : Nat) (w : World) (hP : PlatAt w w.heap.size A n A' m p) :
    Calls Tryz.prog 61 #[.agg #[.slice A n c, .slice A' m d]] w fun e w' => e = .returned (.bool (checkP p)) ∧ Below w.heap.size w w' := by
  obtain ⟨hS, hP⟩ := hP
  have HS : Hid (∀ W, Below w.heap.size w W → SlR encS 1 W W.heap.size A n p.sectors) := fun W hb => (hS.below hb).more hb.size
  have hl := hS.1
  by_cases hq : 1 ≤ n ∧ n ≤ 200 ∧ m ≤ 100
  · obtain ⟨h1, h2, h3⟩ := hq
    by_cases hlong : p.sectors.any longB = true
    · have e1 : checkP p = false := by simp [checkP, hlong]
      rw [e1]
      clear hS hP hl e1
      go_enter Tryz.func61, Tryz.ntmps61
      go_wp2_with fail
      refine (contains_long p.sectors A n c _ (HS.out _ (by go_grown)) (by omega)).mono ?_
      rintro e w' ⟨rfl, rfl⟩
      rw [hlong]
      go_wp2_with fail
      go_ret
      exact ⟨rfl, by go_grown⟩
    · have hlong' : p.sectors.any longB = false := by simpa using hlong
      have HEnd : Hid ((p.cache.take p.cache.length).all (putB n) = true → checkP p = true) := by
        intro h
        rw [List.take_length] at h
        have h100 : p.cache.length ≤ 100 := by rw [hP.1]; exact h3
        simp only [checkP, hl, hlong', h, h1, h2, h100, decide_true, Bool.not_false, Bool.and_self]
      have HNo : Hid (∀ (k : Nat) (x : PPut), p.cache[k]? = some x → putB n x = false → checkP p = false) := by
        rw [← hl]; exact checkP_put p
      generalize hv : checkP p = v at HEnd HNo ⊢
      have HHas : Hid (∀ (i : Int) (W : World), Calls Tryz.prog 62 #[.agg #[.slice A n c, .slice A' m d], .int .i64 i] W fun e w' => e = .returned (.bool (hasB n i)) ∧ Below W.heap.size W w') := by
        intro i W
        have := has_any p n m A A' c d i W hl
        rwa [hl] at this
      obtain ⟨hm, hA'⟩ := hP
      clear hS hl hlong hv
      have HM := Lib.hid hm
      rcases hA' with h0 | ⟨b, off, rfl, hb, hC⟩
      · subst h0
        have hc0 : p.cache = [] := List.eq_nil_of_length_eq_zero hm
        have HE := Lib.hid hc0
        clear hm hc0 HM
        go_enter Tryz.func61, Tryz.ntmps61
        go_wp2_with fail
        refine (contains_long p.sectors A n c _ (HS.out _ (by go_grown)) (by omega)).mono ?_
        rintro e w' ⟨rfl, rfl⟩
        rw [hlong']
        go_wp2_with fail
        refine wp_loop_rounds 1 ?_
        rw [rounds_succ]
        go_wp2_with fail
        go_ret
        exact ⟨ret_bool (HEnd.out (by rw [HE.out]; rfl)).symm, by go_grown⟩
      · have HC := Lib.hid hC
        clear hC hm
        go_enter Tryz.func61, Tryz.ntmps61
        go_wp2_with fail
        refine (contains_long p.sectors A n c _ (HS.out _ (by go_grown)) (by omega)).mono ?_
        rintro e w' ⟨rfl, rfl⟩
        rw [hlong']
        go_wp2_with fail
        go_loopw [29] (fun i wr => ∃ k : Nat, k ≤ m ∧ i = .int .i64 k ∧ Hid ((p.cache.take k).all (putB n) = true) ∧ Below w.heap.size w wr ∧ Blk wr w.heap.size 42 #[.slice A n c, .slice (some ⟨b, off, none⟩) m d]) (fun i _ => m - (intOf i).toNat)
        case atStart => exact ⟨0, Nat.zero_le _, rfl, rfl, by go_grown, Blk.new _ _ _⟩
        case round =>
          obtain ⟨k, hk, rfl, HU, hB, hbox⟩ := hrel
          have hsz := hbox.lt
          have q0 := hbox.cells 0 _ rfl
          have q1 := hbox.cells 1 _ rfl
          simp only [List.getElem_toArray, List.getElem_cons_zero, List.getElem_cons_succ] at q0 q1
          by_cases hlt : k < m
          · obtain ⟨x, hx⟩ : ∃ x, p.cache[k]? = some x := ⟨p.cache[k]'(by rw [HM.out]; exact hlt), List.getElem?_eq_getElem (by rw [HM.out]; exact hlt)⟩
            obtain ⟨c0, c1⟩ := (HC.out.below hB hb).put hx
            have HX := Lib.hid hx
            clear hx
            by_cases hxl : longB x.text = true
            · go_wp2_with (go_at_call 101; refine (long_any _ _).mono ?_; rintro e w' ⟨rfl, rfl⟩; rw [hxl])
              go_ret
              exact ⟨ret_bool (HNo.out k x HX.out (by simp [putB, hxl])).symm, by go_grown⟩
            · have hxl' : longB x.text = false := by simpa using hxl
              clear hxl
              go_wp2_with (first | (go_at_call 101; refine (long_any _ _).mono ?_; rintro e w' ⟨rfl, rfl⟩; rw [hxl']) | (go_at_call 62; refine (HHas.out _ _).mono ?_; rintro e w' ⟨rfl, hb1⟩))
              all_goals first
                | (go_round
                   case rel => exact ⟨k + 1, by omega, by go_num, upP_succ HX.out HU.out (by simp only [Bool.not_eq_false'] at *; simp [putB, *]), Below.trans (by go_grown) (hb1.mono (by simp; omega)), (hbox.alloc _).below hb1 (by simp; omega)⟩
                   case measure => simp [intOf]; omega)
                | (go_ret
                   exact ⟨ret_bool (HNo.out k x HX.out (by simp only [Bool.not_eq_true'] at *; simp [putB, *])).symm, Below.trans (by go_grown) (hb1.mono (by simp; omega))⟩)
          · obtain rfl : k = m := by omega
            go_wp2_with fail
            go_ret
            exact ⟨ret_bool (HEnd.out (by rw [HM.out]; exact HU.out)).symm, hB⟩
  · have e1 : checkP p = false := by
      simp only [checkP, hl, hP.1]
      rw [Bool.eq_false_iff]
      intro h
      simp only [Bool.and_eq_true, decide_eq_true_eq] at h
      exact hq ⟨h.1, h.2.1, h.2.2.1⟩
    rw [e1]
    clear hS hP hl e1
    by_cases h1 : 1 ≤ n
    · by_cases h2 : n ≤ 200
      · have h3 : 100 < m := by omega
        clear hq
        go_enter Tryz.func61, Tryz.ntmps61
        go_wp2_with fail
        go_ret
        exact ⟨rfl, by go_grown⟩
      · clear hq
        go_enter Tryz.func61, Tryz.ntmps61
        go_wp2_with fail
        go_ret
        exact ⟨rfl, by go_grown⟩
    · clear hq
      go_enter Tryz.func61, Tryz.ntmps61
      go_wp2_with fail
      go_ret
      exact ⟨rfl, by go_grown⟩
end Go.Proofs.YtpkomloblhbkiaaGreatDoor
/- platter: a disk that steps are done on (a box of its own, with rows of its own): copied. -/
namespace Go.Proofs.YtpkomloblhbkiaaGreatDoor
open Go.RowKit
theorem str_info : (Tryz.prog.info? 9).map (fun i => (i.zero, i.size, i.bytes)) = some (some (.string ByteArray.empty), 1, 16) := by kernel_rfl
theorem put_info : (Tryz.prog.info? 159).map (fun i => (i.zero, i.size, i.bytes)) = some (some (.agg #[.int .i64 0, .string ByteArray.empty]), 2, 24) := by kernel_rfl
theorem one_flatS (L : List ByteArray) : ∀ u ∈ flat encS L, u.oneCell' = true := by
  intro u hu
  simp only [flat, List.mem_flatMap, encS] at hu
  obtain ⟨l, _, hu⟩ := hu
  simp at hu
  rw [hu]; rfl
theorem one_flatP (L : List PPut) : ∀ u ∈ flat encP L, u.oneCell' = true := by
  intro u hu
  simp only [flat, List.mem_flatMap, encP] at hu
  obtain ⟨l, _, hu⟩ := hu
  simp at hu
  rcases hu with rfl | rfl <;> rfl
theorem below_of_grown {w w' : World} (hg : w.grownBy w' none) : Below w.heap.size w w' := ⟨hg.os, hg.tape, hg.output, hg.size, fun k hk => hg.block k hk (by simp)⟩
/-- block g, from B on, is the disk p, whose rows are its own, from B on -/
def Disk (w : World) (B g : Nat) (p : Plat) : Prop := ∃ A c A' c',
  Blk w g 136 #[.slice A p.sectors.length c, .slice A' p.cache.length c'] ∧
  w.ownsRow B 9 1 (.slice A p.sectors.length c) p.sectors.length (flat encS p.sectors) ∧
  w.ownsRow B 159 2 (.slice A' p.cache.length c') p.cache.length (flat encP p.cache) ∧ B ≤ g
set_option maxHeartbeats 1000000 in
set_option maxRecDepth 100000 in
theorem dcopied_any (p : Plat) (A A' : Option Addr) (n m c d : Nat) (w : World) (hP : PlatAt w w.heap.size A n A' m p) (hn : n ≤ 1000) (hm : m ≤ 1000) :
    Calls Tryz.prog 63 #[.agg #[.slice A n c, .slice A' m d]] w fun e w' =>
      ∃ g, e = .returned (.pointer (some ⟨g, 0, none⟩)) ∧ Disk w' w.heap.size g p ∧ Below w.heap.size w w' := by
  obtain ⟨i0, hi0, hz0, hz1, hz2⟩ := info_parts str_info
  obtain ⟨i1, hj0, hy0, hy1, hy2⟩ := info_parts put_info
  obtain ⟨L, M⟩ := p
  obtain ⟨h1, h2⟩ := hP
  simp only at h1 h2
  have HS : Hid (∀ W, Below w.heap.size w W → Reads W w.heap.size 1 A n (flat encS L)) := fun W hb => (h1.below hb).reads encS_len
  have HC : Hid (∀ W, Below w.heap.size w W → Reads W w.heap.size 2 A' m (flat encP M)) := fun W hb => (h2.below hb).reads encP_len
  have HL := Lib.hid (And.intro h1.1 h2.1)
  clear h1 h2
  go_enter Tryz.func63, Tryz.ntmps63
  go_wp2_with fail
  go_region_law (first
    | (refine step_append_any _ rfl (.const (.slice none 0 0)) (.tmp 4) _ rfl w.heap.size _ i0 _ 1 16 Tryz.underlying30 hi0 hz0 hz1 hz2 rfl (by omega) (.slice none 0 0) 0 [] rfl (World.ownsRow_nil _ _ _ _) w.heap.size A n c (flat encS L) (by simp [Act.eval]) (HS.out _ (by go_grown)) (one_flatS L) (by simp only [maxLen]; omega) (by omega) (by first | (simp; done) | (simp; omega) | omega) ?_; intro v1 w1 hown1 hg1 hat1; obtain ⟨A1, c1, rfl, _, _, _⟩ := own_form hown1; have hb1 : Below w.heap.size w w1 := Below.grown (by go_grown) hg1 (by first | (simp; done) | (simp; omega) | omega) (by simp [Value.ownBlock]); have hs1 := hg1.size; try simp only [World.size_alloc, World.size_drew] at hs1; have qa1 : w1.cell? ⟨w.heap.size, 0, none⟩ = some (.slice A n c) := (World.cell?_of_block (hg1.block w.heap.size (by first | (simp; done) | (simp; omega) | omega) (by simp [Value.ownBlock]))).trans (by first | assumption | simp); have qb1 : w1.cell? ⟨w.heap.size, 1, none⟩ = some (.slice A' m d) := (World.cell?_of_block (hg1.block w.heap.size (by first | (simp; done) | (simp; omega) | omega) (by simp [Value.ownBlock]))).trans (by first | assumption | simp))
    | (refine step_append_any _ rfl (.const (.slice none 0 0)) (.tmp 7) _ rfl w.heap.size _ i1 _ 2 24 Tryz.underlying40 hj0 hy0 hy1 hy2 rfl (by omega) (.slice none 0 0) 0 [] rfl (World.ownsRow_nil _ _ _ _) w.heap.size A' m d (flat encP M) (by simp [Act.eval]) (HC.out _ (by go_grown)) (one_flatP M) (by simp only [maxLen]; omega) (by omega) (by first | (simp; done) | (simp; omega) | omega) ?_; intro v2 w2 hown2 hg2 hat2; obtain ⟨A2, c2, rfl, _, _, _⟩ := own_form hown2; have hb2 : Below w.heap.size w w2 := Below.grown (by go_grown) hg2 (by first | (simp; done) | (simp; omega) | omega) (by simp [Value.ownBlock]); have hs2 := hg2.size; try simp only [World.size_alloc, World.size_drew] at hs2; have qa2 : w2.cell? ⟨w.heap.size, 0, none⟩ = some (.slice A n c) := (World.cell?_of_block (hg2.block w.heap.size (by first | (simp; done) | (simp; omega) | omega) (by simp [Value.ownBlock]))).trans (by first | assumption | simp); have qb2 : w2.cell? ⟨w.heap.size, 1, none⟩ = some (.slice A' m d) := (World.cell?_of_block (hg2.block w.heap.size (by first | (simp; done) | (simp; omega) | omega) (by simp [Value.ownBlock]))).trans (by first | assumption | simp)))
  all_goals go_wp2_with (with_reducible refine end_at ?_)
  all_goals
    refine end_ret (results_tmp rfl _ _ _) rfl ?_
    obtain ⟨rfl, rfl⟩ := HL.out
    refine ⟨_, rfl, ⟨A1, c1, A2, c2, by exact Blk.new _ _ _, ?_, ?_, by first | (simp; done) | (simp; omega) | omega⟩, by go_grown⟩
    · try simp only [Nat.zero_add, List.nil_append] at hown1
      first | exact hown1.alloc _ | exact (own_below hown1 (below_of_grown hg2) (Nat.le_refl _)).alloc _
    · try simp only [Nat.zero_add, List.nil_append] at hown2
      first | exact hown2.alloc _ | exact (own_below hown2 (below_of_grown hg1) (Nat.le_refl _)).alloc _
end Go.Proofs.YtpkomloblhbkiaaGreatDoor
