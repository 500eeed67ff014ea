/- NetFor, for every input: the places that are told of somebody rise, and are just those of their letters; no condition. -/
import Derived.Test.YtojabnaabgbclaaNetR
import Derived.Test.YtojabnaabgbclaaNetBackP
import Derived.Deep.DeepCutAuto
import Derived.Deep.RegionHeld3
import Derived.Deep.QuietTactic
import Derived.BigQuiet
set_option linter.unusedVariables false
namespace Go.Proofs.Ytojabnaabgbclaa
open Go.RowKit
theorem forTo_get {L : List Letter} {name : ByteArray} {k j x : Nat} (h : (forTo L name k)[j]? = some x) : x < k ∧ (L.getD x noLetter).to = name := by
  have := List.mem_of_getElem? h
  simpa [forTo] using this
theorem forTo_rise (L : List Letter) (name : ByteArray) (k : Nat) : (forTo L name k).Pairwise (· < ·) := (List.pairwise_lt_range).filter _
theorem rise_get {X : List Nat} (h : X.Pairwise (· < ·)) {j a b : Nat} (ha : X[j]? = some a) (hb : X[j + 1]? = some b) : a < b := by
  obtain ⟨h1, rfl⟩ := List.getElem?_eq_some_iff.1 ha
  obtain ⟨h2, rfl⟩ := List.getElem?_eq_some_iff.1 hb
  exact List.pairwise_iff_getElem.1 h j (j + 1) h1 h2 (by omega)
theorem nu_slr {w : World} {base : Nat} {A : Option Addr} {c : Nat} {X : List Nat} (h : NuRow w base (.slice A X.length c) X) : SlR encNu 1 w w.heap.size A X.length X := SlR.of_own encNu_len h rfl
theorem nu_cell {w : World} {b off : Nat} {X : List Nat} (h : SlC encNu 1 w b off X) {k x : Nat} (hx : X[k]? = some x) : w.cell? ⟨b, off + k, none⟩ = some (.int .i64 x) := by
  have := h k x hx 0 _ rfl
  simpa [encNu, numV] using this
def AllN (w : World) (N : Net) (A : Option Addr) : Prop := ∀ W, Below w.heap.size w W → w.heap.size ≤ W.heap.size → SlR encL 3 W W.heap.size A N.way.length N.way

set_option maxHeartbeats 1000000 in
theorem forl_big (N : Net) (name : ByteArray) (A : Option Addr) (c : Nat) (w : World) (HS : Hid (AllN w N A)) (HO : Hid (∀ l ∈ N.way, LetterOk l)) (hl : StrOk name) (h : bigB N = true ∨ (bigB N = false ∧ 200 < name.size)) :
    Calls Try.prog 7 #[.agg #[.slice A N.way.length c, .int .i64 N.sent, .int .i64 N.delivered, .int .i64 N.lost, .int .i64 N.doubled], .string name] w fun e w' => e = .returned (.bool true) ∧ Below w.heap.size w w' := by
  simp only [StrOk] at hl
  rcases h with h | ⟨h, hl⟩
  · go_enter Try.func7, Try.ntmps7
    go_wp2_with fail
    refine (big_any N A c _ (HS.out _ (by go_grown) (by simp)) HO.out).mono ?_
    rintro e w1 ⟨rfl, hb1⟩
    rw [h]
    go_wp2_with (with_reducible refine end_at ?_)
    refine end_ret (results_tmp rfl _ _ _) rfl ⟨rfl, Below.trans (by go_grown) (hb1.mono (by simp))⟩
  · go_enter Try.func7, Try.ntmps7
    go_wp2_with fail
    refine (big_any N A c _ (HS.out _ (by go_grown) (by simp)) HO.out).mono ?_
    rintro e w1 ⟨rfl, hb1⟩
    rw [h]
    go_wp2_with (with_reducible refine end_at ?_)
    refine end_ret (results_tmp rfl _ _ _) rfl ⟨rfl, Below.trans (by go_grown) (hb1.mono (by simp))⟩

/-- what the last loop's rounds see -/
def ForIn (w : World) (N : Net) (A : Option Addr) (c : Nat) (A2 : Option Addr) (X : List Nat) (wr : World) : Prop :=
  Below w.heap.size w wr ∧ Blk wr w.heap.size 25 #[.slice A N.way.length c, .int .i64 N.sent, .int .i64 N.delivered, .int .i64 N.lost, .int .i64 N.doubled] ∧ SlR encNu 1 wr wr.heap.size A2 X.length X ∧ SlR encL 3 wr wr.heap.size A N.way.length N.way
theorem ForIn.drewN {w wr : World} {N : Net} {A A2 : Option Addr} {c : Nat} {X : List Nat} (h : ForIn w N A c A2 X wr) (d : Nat) : ForIn w N A c A2 X (wr.drewN d) :=
  ⟨below_drewN h.1 d, h.2.1.drewN d, h.2.2.1, h.2.2.2⟩
set_option maxHeartbeats 2000000 in
set_option maxRecDepth 100000 in
theorem forl_main (N : Net) (name : ByteArray) (A : Option Addr) (c : Nat) (w : World) (HS : Hid (AllN w N A)) (HO : Hid (∀ l ∈ N.way, LetterOk l)) (h : bigB N = false) (hl : name.size ≤ 200) :
    Calls Try.prog 7 #[.agg #[.slice A N.way.length c, .int .i64 N.sent, .int .i64 N.delivered, .int .i64 N.lost, .int .i64 N.doubled], .string name] w fun e w' => e = .returned (.bool true) ∧ Below w.heap.size w w' := by
  go_enter Try.func7, Try.ntmps7
  go_wp2_with fail
  refine (big_any N A c _ (HS.out _ (by go_grown) (by simp)) HO.out).mono ?_
  rintro e w1 ⟨rfl, hb1⟩
  rw [h]
  have HB1 : Hid (Below w.heap.size w w1) := Lib.hid (Below.trans (by go_grown) (hb1.mono (by simp)))
  have HK1 : Hid (Blk w1 w.heap.size 25 #[.slice A N.way.length c, .int .i64 N.sent, .int .i64 N.delivered, .int .i64 N.lost, .int .i64 N.doubled]) := Lib.hid ((Blk.new w _ _).below hb1 (by simp))
  have n0 := HK1.out.cells 0 _ rfl
  have n1 := HK1.out.cells 1 _ rfl
  have n2 := HK1.out.cells 2 _ rfl
  have n3 := HK1.out.cells 3 _ rfl
  have n4 := HK1.out.cells 4 _ rfl
  simp only [List.getElem_toArray, List.getElem_cons_zero, List.getElem_cons_succ] at n0 n1 n2 n3 n4
  clear hb1
  go_wp2_with fail
  refine (for_any N name A c w1 (HS.out _ HB1.out HB1.out.size)).mono ?_
  rintro e w2 ⟨hb2, A2, c2, rfl, HR2⟩
  have HB2 : Hid (Below w.heap.size w w2) := Lib.hid (HB1.out.trans (hb2.mono HB1.out.size))
  have HK2 : Hid (Blk w2 w.heap.size 25 #[.slice A N.way.length c, .int .i64 N.sent, .int .i64 N.delivered, .int .i64 N.lost, .int .i64 N.doubled]) := Lib.hid (HK1.out.below hb2 HK1.out.lt)
  have HX2 : Hid (SlR encNu 1 w2 w2.heap.size A2 (forV N name).length (forV N name)) := Lib.hid (nu_slr HR2.out)
  clear hb2 HR2 n0 n1 n2 n3 n4 HK1 HB1
  have n0 := HK2.out.cells 0 _ rfl
  have n1 := HK2.out.cells 1 _ rfl
  have n2 := HK2.out.cells 2 _ rfl
  have n3 := HK2.out.cells 3 _ rfl
  have n4 := HK2.out.cells 4 _ rfl
  simp only [List.getElem_toArray, List.getElem_cons_zero, List.getElem_cons_succ] at n0 n1 n2 n3 n4
  go_wp2_with fail
  refine (check_any N A N.way.length c w2 (HS.out _ HB2.out HB2.out.size)).mono ?_
  rintro e w3 ⟨rfl, hb3⟩
  have HB3 : Hid (Below w.heap.size w w3) := Lib.hid (HB2.out.trans (hb3.mono HB2.out.size))
  have HK3 : Hid (Blk w3 w.heap.size 25 #[.slice A N.way.length c, .int .i64 N.sent, .int .i64 N.delivered, .int .i64 N.lost, .int .i64 N.doubled]) := Lib.hid (HK2.out.below hb3 HK2.out.lt)
  have HX3 : Hid (SlR encNu 1 w3 w3.heap.size A2 (forV N name).length (forV N name)) := Lib.hid ((HX2.out.below hb3).more hb3.size)
  have HS3 : Hid (SlR encL 3 w3 w3.heap.size A N.way.length N.way) := Lib.hid (HS.out _ HB3.out HB3.out.size)
  clear hb3 HX2 n0 n1 n2 n3 n4 HK2 HB2 HS HO h
  cases hc : checkB N with
  | false =>
    have hV : forV N name = [] := by simp [forV, hc]
    rw [hV]
    clear hV hc HX3 HS3 HK3
    simp only [List.length_nil]
    go_wp2_with fail
    refine (nets_any _).mono ?_
    rintro e w4 ⟨rfl, hb4⟩
    go_wp2_with (with_reducible refine end_at ?_)
    refine end_ret (results_tmp rfl _ _ _) rfl ⟨rfl, HB3.out.trans (hb4.mono HB3.out.size)⟩
  | true =>
    have hV : forV N name = forTo N.way name N.way.length := by simp [forV, hc]
    have hn60 : N.way.length ≤ 60 := (fine_of N hc).1
    have hX60 := forTo_len N.way name N.way.length
    have HG := Lib.hid (fun j x => @forTo_get N.way name N.way.length j x)
    have HRi := Lib.hid (forTo_rise N.way name N.way.length)
    rw [hV] at HX3 ⊢
    obtain ⟨L, sn, dl, lo, db⟩ := N
    simp only at *
    have n0 := HK3.out.cells 0 _ rfl
    simp only [List.getElem_toArray, List.getElem_cons_zero] at n0
    have HMany := Lib.hid (rfl : (forTo L name L.length).length = (forTo L name L.length).length)
    obtain ⟨X, hX⟩ : ∃ X, X = forTo L name L.length := ⟨_, rfl⟩
    rw [← hX] at HG HRi HX3 hX60 HMany ⊢
    have HXe := Lib.hid hX
    have HFI := Lib.hid (show ForIn w ⟨L, sn, dl, lo, db⟩ A c A2 X w3 from ⟨HB3.out, HK3.out, HX3.out, HS3.out⟩)
    clear hX hc hV HK3 HMany
    go_wp2_with fail
    go_loopw [6, 7] (fun mv iv wr => ∃ k : Nat, k ≤ L.length ∧ iv = .int .i64 k ∧ mv = .int .i64 (forTo L name k).length ∧ w3 = wr) (fun _ iv _ => L.length - (intOf iv).toNat)
    case atStart => exact ⟨0, Nat.zero_le _, rfl, rfl, rfl⟩
    case round =>
      obtain ⟨k, hk, rfl, rfl, rfl⟩ := hrel
      have hf60 := forTo_len L name k
      by_cases hlt : k < L.length
      · obtain ⟨x, hxk⟩ : ∃ x, L[k]? = some x := ⟨L[k], List.getElem?_eq_getElem _⟩
        obtain ⟨b, off, rfl, hb, hC⟩ := HS3.out.2.resolve_left (by omega)
        obtain ⟨c0, c1, c2⟩ := hC.letter hxk
        clear hC
        by_cases hx : x.to = name
        · have e1 : (x.to.toList == name.toList) = true := by rw [hx]; simp
          have HF := Lib.hid (forTo_yes hxk hx)
          clear hx hxk
          go_wp2_with fail
          go_roundw
          case rel => exact ⟨k + 1, by omega, by go_num, by rw [HF.out, List.length_append]; go_num, by trivial⟩
          case measure => simp [intOf]; omega
        · have e1 : (x.to.toList == name.toList) = false := by
            simp only [beq_eq_false_iff_ne, ne_eq]
            exact fun h => hx (bytes_ext h)
          have HF := Lib.hid (forTo_no hxk hx)
          clear hx hxk
          go_wp2_with fail
          go_roundw
          case rel => exact ⟨k + 1, by omega, by go_num, by rw [HF.out], by trivial⟩
          case measure => simp [intOf]; omega
      · obtain rfl : k = L.length := by omega
        rw [← HXe.out]
        go_wp2_with fail
        go_loopw [8] (fun iv wr => ∃ j : Nat, j ≤ X.length ∧ iv = .int .i64 j ∧ Hid (ForIn w ⟨L, sn, dl, lo, db⟩ A c A2 X wr)) (fun iv _ => X.length - (intOf iv).toNat)
        case atStart => exact ⟨0, Nat.zero_le _, rfl, HFI⟩
        case round =>
          obtain ⟨j, hj, rfl, HFr⟩ := hrel
          clear n0
          have n0 := HFr.out.2.1.cells 0 _ rfl
          simp only [List.getElem_toArray, List.getElem_cons_zero] at n0
          clear HB3 HX3 HS3 HFI
          by_cases hlt2 : j < X.length
          · obtain ⟨x, hxj⟩ : ∃ x, X[j]? = some x := ⟨X[j], List.getElem?_eq_getElem _⟩
            obtain ⟨hxl, hto⟩ := HG.out j x hxj
            obtain ⟨y, hy⟩ : ∃ y, L[x]? = some y := ⟨L[x], List.getElem?_eq_getElem _⟩
            have hyt : y.to = name := by rw [List.getD_eq_getElem?_getD, hy] at hto; exact hto
            have hxl' : x < L.length := hxl
            obtain ⟨b, off, rfl, hb, hC⟩ := HFr.out.2.2.2.2.resolve_left (by show ¬ L.length = 0; omega)
            obtain ⟨c0, c1, c2⟩ := hC.letter hy
            obtain ⟨b2, off2, rfl, hb2, hC2⟩ := HFr.out.2.2.1.2.resolve_left (by omega)
            have d0 := nu_cell hC2 hxj
            have e1 : (y.to.toList == name.toList) = true := by rw [hyt]; simp
            have e2 : (!(y.to.toList == name.toList)) = false := by rw [e1]; rfl
            have g0 : decide ((x : Int) < 0) = false := by simp
            have g1 : decide (L.length ≤ x) = false := by simp; omega
            cases j with
            | zero =>
              simp only [Nat.add_zero] at d0
              clear hC hC2 hto hyt hy hxj
              go_wp2_with fail
              go_quiet (fail)
              all_goals go_wp2_with fail
              all_goals
                go_roundw
                case rel => exact ⟨1, by omega, by go_num, Lib.hid (HFr.out.drewN _)⟩
                case measure => simp [intOf]; omega
            | succ j =>
              obtain ⟨x', hxj'⟩ : ∃ x', X[j]? = some x' := ⟨X[j], List.getElem?_eq_getElem _⟩
              have d1 := nu_cell hC2 hxj'
              have hr := rise_get HRi.out hxj' hxj
              have g2 : decide (x ≤ x') = false := by simp; omega
              have g3 : decide ((0 : Int) < (j : Int) + 1) = true := decide_eq_true (by omega)
              have i0 : (0 : Int) ≤ (j : Int) + 1 := by omega
              clear hC hC2 hto hyt hy hxj hxj'
              go_wp2_with fail
              go_quiet (fail)
              all_goals go_wp2_with fail
              all_goals
                go_roundw
                case rel => exact ⟨j + 1 + 1, by omega, by go_num, Lib.hid (HFr.out.drewN _)⟩
                case measure => simp [intOf]; omega
          · obtain rfl : j = X.length := by omega
            go_wp2_with fail
            refine (nets_any _).mono ?_
            rintro e w4 ⟨rfl, hb4⟩
            go_wp2_with (with_reducible refine end_at ?_)
            refine end_ret (results_tmp rfl _ _ _) rfl ⟨rfl, HFr.out.1.trans (hb4.mono HFr.out.1.size)⟩

theorem forl_any (N : Net) (name : ByteArray) (A : Option Addr) (c : Nat) (w : World) (hN : SlR encL 3 w w.heap.size A N.way.length N.way ∧ N.way.length ≤ 140737488351232 ∧ (∀ l ∈ N.way, LetterOk l) ∧ WfI N.sent ∧ WfI N.delivered ∧ WfI N.lost ∧ WfI N.doubled) (hl : StrOk name) :
    Calls Try.prog 7 #[.agg #[.slice A N.way.length c, .int .i64 N.sent, .int .i64 N.delivered, .int .i64 N.lost, .int .i64 N.doubled], .string name] w fun e w' => e = .returned (.bool true) ∧ Below w.heap.size w w' := by
  have HS : Hid (AllN w N A) := fun W hb hs => (hN.1.below hb).more hs
  have HO : Hid (∀ l ∈ N.way, LetterOk l) := hN.2.2.1
  by_cases h : bigB N = true
  · exact forl_big N name A c w HS HO hl (.inl h)
  · have h' : bigB N = false := by simpa using h
    by_cases h2 : 200 < name.size
    · exact forl_big N name A c w HS HO hl (.inr ⟨h', h2⟩)
    · exact forl_main N name A c w HS HO h' (by omega)
end Go.Proofs.Ytojabnaabgbclaa
